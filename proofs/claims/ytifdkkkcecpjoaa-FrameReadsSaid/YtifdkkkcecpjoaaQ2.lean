/-
  Texts behind the laws of frame, joined: FxA, Tx0, Tx1, FrO, FxB, Tx2, FxC. (What began as words and functions that the kit prints is cut down to what is named here.)
-/
import Derived.Test.YtifdkkkcecpjoaaProg
import Derived.Test.YtifdkkkcecpjoaaQ1
section
/-
  The reference's table of instructions: finding a row by its number.
-/
namespace Go.Proofs.Ytifdkkkcecpjoaa
open Go.RowKit
attribute [local go_sem ↓] Go.wp_at_zero Go.wp_at_succ

/-- The table's bytes. -/
def tblN : List Nat := [115, 101, 95, 105, 108, 108, 101, 103, 97, 108, 58, 48, 48, 48, 48, 58, 124, 115, 101, 95, 105, 115, 121, 110, 99, 58, 48, 48, 48, 49] ++ [58, 124, 115, 101, 95, 115, 99, 58, 48, 48, 48, 50, 58, 124, 115, 101, 95, 98, 108, 114, 58, 48, 48, 48, 52, 58, 124, 115, 101, 95] ++ [98, 99, 116, 114, 58, 48, 48, 48, 54, 58, 124, 115, 101, 95, 110, 111, 116, 58, 48, 48, 50, 48, 58, 88, 124, 115, 101, 95, 110, 101] ++ [103, 58, 48, 48, 51, 48, 58, 88, 124, 115, 101, 95, 109, 102, 108, 114, 58, 48, 48, 56, 48, 58, 88, 124, 115, 101, 95, 109, 116, 108] ++ [114, 58, 48, 48, 57, 48, 58, 88, 124, 115, 101, 95, 109, 102, 99, 116, 114, 58, 48, 48, 97, 48, 58, 88, 124, 115, 101, 95, 109, 116] ++ [99, 116, 114, 58, 48, 48, 98, 48, 58, 88, 124, 115, 101, 95, 101, 120, 116, 122, 98, 58, 48, 48, 99, 48, 58, 88, 124, 115, 101, 95] ++ [101, 120, 116, 115, 98, 58, 48, 48, 100, 48, 58, 88, 124, 115, 101, 95, 101, 120, 116, 122, 104, 58, 48, 48, 101, 48, 58, 88, 124, 115] ++ [101, 95, 101, 120, 116, 115, 104, 58, 48, 48, 102, 48, 58, 88, 124, 115, 101, 95, 109, 114, 58, 48, 49, 48, 48, 58, 88, 32, 89, 124] ++ [115, 101, 95, 97, 100, 100, 58, 48, 52, 48, 48, 58, 88, 32, 89, 124, 115, 101, 95, 109, 117, 108, 108, 119, 58, 48, 53, 48, 48, 58] ++ [88, 32, 89, 124, 115, 101, 95, 115, 117, 98, 58, 48, 54, 48, 48, 58, 88, 32, 89, 124, 115, 101, 95, 99, 109, 112, 58, 48, 99, 48] ++ [48, 58, 88, 32, 89, 124, 115, 101, 95, 99, 109, 112, 108, 58, 48, 100, 48, 48, 58, 88, 32, 89, 124, 115, 101, 95, 97, 100, 100, 105] ++ [58, 50, 48, 48, 48, 58, 88, 32, 79, 53, 124, 115, 101, 95, 99, 109, 112, 108, 105, 58, 50, 50, 48, 48, 58, 88, 32, 79, 53, 124] ++ [115, 101, 95, 115, 117, 98, 105, 58, 50, 52, 48, 48, 58, 88, 32, 79, 53, 124, 115, 101, 95, 99, 109, 112, 105, 58, 50, 97, 48, 48] ++ [58, 88, 32, 85, 53, 124, 115, 101, 95, 111, 114, 58, 52, 52, 48, 48, 58, 88, 32, 89, 124, 115, 101, 95, 97, 110, 100, 99, 58, 52] ++ [53, 48, 48, 58, 88, 32, 89, 124, 115, 101, 95, 97, 110, 100, 58, 52, 54, 48, 48, 58, 88, 32, 89, 124, 115, 101, 95, 108, 105, 58] ++ [52, 56, 48, 48, 58, 88, 32, 85, 55, 124, 115, 101, 95, 98, 99, 108, 114, 105, 58, 54, 48, 48, 48, 58, 88, 32, 85, 53, 124, 115] ++ [101, 95, 98, 115, 101, 116, 105, 58, 54, 52, 48, 48, 58, 88, 32, 85, 53, 124, 115, 101, 95, 98, 116, 115, 116, 105, 58, 54, 54, 48] ++ [48, 58, 88, 32, 85, 53, 124, 115, 101, 95, 115, 114, 119, 105, 58, 54, 56, 48, 48, 58, 88, 32, 85, 53, 124, 115, 101, 95, 115, 108] ++ [119, 105, 58, 54, 99, 48, 48, 58, 88, 32, 85, 53, 124, 115, 101, 95, 108, 98, 122, 58, 56, 48, 48, 48, 58, 89, 32, 77, 49, 32] ++ [88, 124, 115, 101, 95, 115, 116, 98, 58, 57, 48, 48, 48, 58, 89, 32, 77, 49, 32, 88, 124, 115, 101, 95, 108, 104, 122, 58, 97, 48] ++ [48, 48, 58, 89, 32, 77, 50, 32, 88, 124, 115, 101, 95, 115, 116, 104, 58, 98, 48, 48, 48, 58, 89, 32, 77, 50, 32, 88, 124, 115] ++ [101, 95, 108, 119, 122, 58, 99, 48, 48, 48, 58, 89, 32, 77, 52, 32, 88, 124, 115, 101, 95, 115, 116, 119, 58, 100, 48, 48, 48, 58] ++ [89, 32, 77, 52, 32, 88, 124, 115, 101, 95, 98, 99, 58, 101, 48, 48, 48, 58, 79, 49, 32, 73, 50, 32, 84, 56, 124, 115, 101, 95] ++ [98, 58, 101, 56, 48, 48, 58, 84, 56, 124, 115, 101, 95, 98, 108, 58, 101, 57, 48, 48, 58, 84, 56, 124, 101, 95, 97, 100, 100, 49] ++ [54, 105, 58, 49, 99, 48, 48, 48, 48, 48, 48, 58, 68, 32, 65, 32, 83, 49, 54, 124, 101, 95, 97, 100, 100, 105, 58, 49, 56, 48] ++ [48, 56, 48, 48, 48, 58, 68, 32, 65, 32, 67, 56, 124, 101, 95, 97, 110, 100, 105, 58, 49, 56, 48, 48, 99, 48, 48, 48, 58, 65] ++ [32, 68, 32, 67, 56, 124, 101, 95, 111, 114, 105, 58, 49, 56, 48, 48, 100, 48, 48, 48, 58, 65, 32, 68, 32, 67, 56, 124, 101, 95] ++ [120, 111, 114, 105, 58, 49, 56, 48, 48, 101, 48, 48, 48, 58, 65, 32, 68, 32, 67, 56, 124, 101, 95, 108, 105, 58, 55, 48, 48, 48] ++ [48, 48, 48, 48, 58, 68, 32, 76, 50, 48, 124, 101, 95, 108, 98, 122, 58, 51, 48, 48, 48, 48, 48, 48, 48, 58, 68, 32, 83, 49] ++ [54, 32, 65, 124, 101, 95, 115, 116, 98, 58, 51, 52, 48, 48, 48, 48, 48, 48, 58, 68, 32, 83, 49, 54, 32, 65, 124, 101, 95, 108] ++ [104, 97, 58, 51, 56, 48, 48, 48, 48, 48, 48, 58, 68, 32, 83, 49, 54, 32, 65, 124, 101, 95, 108, 119, 122, 58, 53, 48, 48, 48] ++ [48, 48, 48, 48, 58, 68, 32, 83, 49, 54, 32, 65, 124, 101, 95, 115, 116, 119, 58, 53, 52, 48, 48, 48, 48, 48, 48, 58, 68, 32] ++ [83, 49, 54, 32, 65, 124, 101, 95, 108, 104, 122, 58, 53, 56, 48, 48, 48, 48, 48, 48, 58, 68, 32, 83, 49, 54, 32, 65, 124, 101] ++ [95, 115, 116, 104, 58, 53, 99, 48, 48, 48, 48, 48, 48, 58, 68, 32, 83, 49, 54, 32, 65, 124, 101, 95, 98, 58, 55, 56, 48, 48] ++ [48, 48, 48, 48, 58, 84, 50, 52, 124, 101, 95, 98, 108, 58, 55, 56, 48, 48, 48, 48, 48, 49, 58, 84, 50, 52, 124, 101, 95, 98] ++ [99, 58, 55, 97, 48, 48, 48, 48, 48, 48, 58, 79, 50, 32, 73, 52, 32, 84, 49, 53, 124, 101, 95, 98, 99, 108, 58, 55, 97, 48] ++ [48, 48, 48, 48, 49, 58, 79, 50, 32, 73, 52, 32, 84, 49, 53, 124, 97, 100, 100, 58, 55, 99, 48, 48, 48, 50, 49, 52, 58, 68] ++ [32, 65, 32, 66, 124, 115, 117, 98, 102, 58, 55, 99, 48, 48, 48, 48, 53, 48, 58, 68, 32, 65, 32, 66, 124, 109, 117, 108, 108, 119] ++ [58, 55, 99, 48, 48, 48, 49, 100, 54, 58, 68, 32, 65, 32, 66, 124, 97, 110, 100, 58, 55, 99, 48, 48, 48, 48, 51, 56, 58, 65] ++ [32, 68, 32, 66, 124, 111, 114, 58, 55, 99, 48, 48, 48, 51, 55, 56, 58, 65, 32, 68, 32, 66, 124, 120, 111, 114, 58, 55, 99, 48] ++ [48, 48, 50, 55, 56, 58, 65, 32, 68, 32, 66, 124]
def tblC : ByteArray := { data := ((((([115, 101, 95, 105, 108, 108, 101, 103, 97, 108, 58, 48, 48, 48, 48, 58, 124, 115, 101, 95, 105, 115, 121, 110, 99, 58, 48, 48, 48, 49, 58, 124, 115, 101, 95, 115, 99].append [58, 48, 48, 48, 50, 58, 124, 115, 101, 95, 98, 108, 114, 58, 48, 48, 48, 52, 58, 124, 115, 101, 95, 98, 99, 116, 114, 58, 48, 48, 48, 54, 58, 124, 115, 101, 95, 110]).append ([111, 116, 58, 48, 48, 50, 48, 58, 88, 124, 115, 101, 95, 110, 101, 103, 58, 48, 48, 51, 48, 58, 88, 124, 115, 101, 95, 109, 102, 108, 114, 58, 48, 48, 56, 48, 58, 88].append [124, 115, 101, 95, 109, 116, 108, 114, 58, 48, 48, 57, 48, 58, 88, 124, 115, 101, 95, 109, 102, 99, 116, 114, 58, 48, 48, 97, 48, 58, 88, 124, 115, 101, 95, 109, 116, 99])).append (([116, 114, 58, 48, 48, 98, 48, 58, 88, 124, 115, 101, 95, 101, 120, 116, 122, 98, 58, 48, 48, 99, 48, 58, 88, 124, 115, 101, 95, 101, 120, 116, 115, 98, 58, 48, 48, 100].append [48, 58, 88, 124, 115, 101, 95, 101, 120, 116, 122, 104, 58, 48, 48, 101, 48, 58, 88, 124, 115, 101, 95, 101, 120, 116, 115, 104, 58, 48, 48, 102, 48, 58, 88, 124, 115, 101]).append ([95, 109, 114, 58, 48, 49, 48, 48, 58, 88, 32, 89, 124, 115, 101, 95, 97, 100, 100, 58, 48, 52, 48, 48, 58, 88, 32, 89, 124, 115, 101, 95, 109, 117, 108, 108, 119, 58].append [48, 53, 48, 48, 58, 88, 32, 89, 124, 115, 101, 95, 115, 117, 98, 58, 48, 54, 48, 48, 58, 88, 32, 89, 124, 115, 101, 95, 99, 109, 112, 58, 48, 99, 48, 48, 58, 88]))).append ((([32, 89, 124, 115, 101, 95, 99, 109, 112, 108, 58, 48, 100, 48, 48, 58, 88, 32, 89, 124, 115, 101, 95, 97, 100, 100, 105, 58, 50, 48, 48, 48, 58, 88, 32, 79, 53].append [124, 115, 101, 95, 99, 109, 112, 108, 105, 58, 50, 50, 48, 48, 58, 88, 32, 79, 53, 124, 115, 101, 95, 115, 117, 98, 105, 58, 50, 52, 48, 48, 58, 88, 32, 79, 53, 124]).append ([115, 101, 95, 99, 109, 112, 105, 58, 50, 97, 48, 48, 58, 88, 32, 85, 53, 124, 115, 101, 95, 111, 114, 58, 52, 52, 48, 48, 58, 88, 32, 89, 124, 115, 101, 95, 97, 110].append [100, 99, 58, 52, 53, 48, 48, 58, 88, 32, 89, 124, 115, 101, 95, 97, 110, 100, 58, 52, 54, 48, 48, 58, 88, 32, 89, 124, 115, 101, 95, 108, 105, 58, 52, 56, 48, 48])).append (([58, 88, 32, 85, 55, 124, 115, 101, 95, 98, 99, 108, 114, 105, 58, 54, 48, 48, 48, 58, 88, 32, 85, 53, 124, 115, 101, 95, 98, 115, 101, 116, 105, 58, 54, 52, 48, 48].append [58, 88, 32, 85, 53, 124, 115, 101, 95, 98, 116, 115, 116, 105, 58, 54, 54, 48, 48, 58, 88, 32, 85, 53, 124, 115, 101, 95, 115, 114, 119, 105, 58, 54, 56, 48, 48, 58]).append ([88, 32, 85, 53, 124, 115, 101, 95, 115, 108, 119, 105, 58, 54, 99, 48, 48, 58, 88, 32, 85, 53, 124, 115, 101, 95, 108, 98, 122, 58, 56, 48, 48, 48, 58, 89, 32, 77].append [49, 32, 88, 124, 115, 101, 95, 115, 116, 98, 58, 57, 48, 48, 48, 58, 89, 32, 77, 49, 32, 88, 124, 115, 101, 95, 108, 104, 122, 58, 97, 48, 48, 48, 58, 89, 32, 77])))).append (((([50, 32, 88, 124, 115, 101, 95, 115, 116, 104, 58, 98, 48, 48, 48, 58, 89, 32, 77, 50, 32, 88, 124, 115, 101, 95, 108, 119, 122, 58, 99, 48, 48, 48, 58, 89, 32].append [77, 52, 32, 88, 124, 115, 101, 95, 115, 116, 119, 58, 100, 48, 48, 48, 58, 89, 32, 77, 52, 32, 88, 124, 115, 101, 95, 98, 99, 58, 101, 48, 48, 48, 58, 79, 49, 32]).append ([73, 50, 32, 84, 56, 124, 115, 101, 95, 98, 58, 101, 56, 48, 48, 58, 84, 56, 124, 115, 101, 95, 98, 108, 58, 101, 57, 48, 48, 58, 84, 56, 124, 101, 95, 97, 100, 100].append [49, 54, 105, 58, 49, 99, 48, 48, 48, 48, 48, 48, 58, 68, 32, 65, 32, 83, 49, 54, 124, 101, 95, 97, 100, 100, 105, 58, 49, 56, 48, 48, 56, 48, 48, 48, 58, 68])).append (([32, 65, 32, 67, 56, 124, 101, 95, 97, 110, 100, 105, 58, 49, 56, 48, 48, 99, 48, 48, 48, 58, 65, 32, 68, 32, 67, 56, 124, 101, 95, 111, 114, 105, 58, 49, 56, 48].append [48, 100, 48, 48, 48, 58, 65, 32, 68, 32, 67, 56, 124, 101, 95, 120, 111, 114, 105, 58, 49, 56, 48, 48, 101, 48, 48, 48, 58, 65, 32, 68, 32, 67, 56, 124, 101, 95]).append ([108, 105, 58, 55, 48, 48, 48, 48, 48, 48, 48, 58, 68, 32, 76, 50, 48, 124, 101, 95, 108, 98, 122, 58, 51, 48, 48, 48, 48, 48, 48, 48, 58, 68, 32, 83, 49, 54].append [32, 65, 124, 101, 95, 115, 116, 98, 58, 51, 52, 48, 48, 48, 48, 48, 48, 58, 68, 32, 83, 49, 54, 32, 65, 124, 101, 95, 108, 104, 97, 58, 51, 56, 48, 48, 48, 48]))).append ((([48, 48, 58, 68, 32, 83, 49, 54, 32, 65, 124, 101, 95, 108, 119, 122, 58, 53, 48, 48, 48, 48, 48, 48, 48, 58, 68, 32, 83, 49, 54, 32, 65, 124, 101, 95, 115].append [116, 119, 58, 53, 52, 48, 48, 48, 48, 48, 48, 58, 68, 32, 83, 49, 54, 32, 65, 124, 101, 95, 108, 104, 122, 58, 53, 56, 48, 48, 48, 48, 48, 48, 58, 68, 32, 83]).append ([49, 54, 32, 65, 124, 101, 95, 115, 116, 104, 58, 53, 99, 48, 48, 48, 48, 48, 48, 58, 68, 32, 83, 49, 54, 32, 65, 124, 101, 95, 98, 58, 55, 56, 48, 48, 48, 48].append [48, 48, 58, 84, 50, 52, 124, 101, 95, 98, 108, 58, 55, 56, 48, 48, 48, 48, 48, 49, 58, 84, 50, 52, 124, 101, 95, 98, 99, 58, 55, 97, 48, 48, 48, 48, 48, 48])).append (([58, 79, 50, 32, 73, 52, 32, 84, 49, 53, 124, 101, 95, 98, 99, 108, 58, 55, 97, 48, 48, 48, 48, 48, 49, 58, 79, 50, 32, 73, 52, 32, 84, 49, 53, 124, 97, 100].append [100, 58, 55, 99, 48, 48, 48, 50, 49, 52, 58, 68, 32, 65, 32, 66, 124, 115, 117, 98, 102, 58, 55, 99, 48, 48, 48, 48, 53, 48, 58, 68, 32, 65, 32, 66, 124, 109]).append ([117, 108, 108, 119, 58, 55, 99, 48, 48, 48, 49, 100, 54, 58, 68, 32, 65, 32, 66, 124, 97, 110, 100, 58, 55, 99, 48, 48, 48, 48, 51, 56, 58, 65, 32, 68, 32, 66].append [124, 111, 114, 58, 55, 99, 48, 48, 48, 51, 55, 56, 58, 65, 32, 68, 32, 66, 124, 120, 111, 114, 58, 55, 99, 48, 48, 48, 50, 55, 56, 58, 65, 32, 68, 32, 66, 124]))))).toArray }
def ofN (l : List Nat) : ByteArray := ⟨(l.map UInt8.ofNat).toArray⟩
theorem tblC_eq : tblC = ofN tblN := by kernel_rfl
theorem tblN_len : tblN.length = 1212 := by kernel_rfl
theorem tblN_small : tblN.all (fun c => decide (c < 256)) = true := by kernel_rfl
structure FS where
  n : Nat
  k : Nat
  at_ : Nat
  f0 : List Nat
  f1 : List Nat
  f2 : List Nat
def FS.put (s : FS) (i : Nat) : FS :=
  let p := (tblN.drop s.at_).take (i - s.at_)
  { s with k := s.k + 1, at_ := i + 1, f0 := if s.k = 0 then p else s.f0, f1 := if s.k = 1 then p else s.f1, f2 := if s.k = 2 then p else s.f2 }
def runF (op : Nat) : List Nat → Nat → FS → Option FS
  | [], _, _ => none
  | c :: l, i, s =>
    if c ≠ 58 ∧ c ≠ 124 then runF op l (i + 1) s
    else if s.k < 3 ∧ s.at_ ≤ i then
      if c = 124 then
        if s.n = op then some (s.put i)
        else if (s.put i).f0.length ≤ 1 then none
        else runF op l (i + 1) { s.put i with n := s.n + 1, k := 0 }
      else runF op l (i + 1) (s.put i)
    else none
def rowOf (op : Nat) : Option FS := runF op tblN 0 ⟨0, 0, 0, [], [], []⟩
theorem rows_are : (List.range 66).all (fun op => (rowOf op).isSome) = true := by kernel_rfl
theorem ofN_size (l : List Nat) : (ofN l).size = l.length := by
  show ((l.map UInt8.ofNat).toArray).size = l.length
  rw [List.size_toArray, List.length_map]
theorem ofN_get {l : List Nat} {i : Nat} (hi : i < l.length) (hi' : i < (ofN l).size) (hs : l[i] < 256) : ((ofN l)[i]).toNat = l[i] := by
  show ((l.map UInt8.ofNat).toArray[i]'(by simpa using hi)).toNat = l[i]
  rw [List.getElem_toArray, List.getElem_map]
  simpa using hs
theorem ofN_drop (l : List Nat) (a n : Nat) : (ofN l).extract a n = ofN ((l.drop a).take (n - a)) := by
  apply ByteArray.ext
  rw [ByteArray.data_extract]
  apply Array.ext'
  simp [ofN, List.map_take, List.map_drop, List.extract_eq_take_drop]
theorem T_size {T : ByteArray} (h : T = ofN tblN) : T.size = 1212 := by
  rw [h, ofN_size, tblN_len]
theorem T_get {T : ByteArray} (h : T = ofN tblN) {i : Nat} (hi : i < 1212) (hi' : i < T.size) : ∃ c, tblN[i]? = some c ∧ c < 256 ∧ T[i].toNat = c := by
  have hl : i < tblN.length := by rw [tblN_len]; exact hi
  have hs : tblN[i] < 256 := of_decide_eq_true (List.all_eq_true.1 tblN_small _ (List.getElem_mem hl))
  refine ⟨tblN[i], List.getElem?_eq_getElem hl, hs, ?_⟩
  subst h
  exact ofN_get hl hi' hs
theorem put3t {w : World} {r : Nat} {t : TypeId} {a b c : Value} (h : w.heap[r]? = some (.cells #[a, b, c] t (0, 0))) (x y z : Value) :
    (w.setCell ⟨r, 0, none⟩ x).cell? ⟨r, 0, none⟩ = some x ∧ ((w.setCell ⟨r, 0, none⟩ x).setCell ⟨r, 1, none⟩ y).cell? ⟨r, 1, none⟩ = some y ∧
    (((w.setCell ⟨r, 0, none⟩ x).setCell ⟨r, 1, none⟩ y).setCell ⟨r, 2, none⟩ z).cell? ⟨r, 2, none⟩ = some z := by
  simp [World.setCell, World.cell?, Array.getElem?_modify, h]
def RowEnd (s : FS) (w : World) (e : Ending) (w' : World) : Prop := e = .returned (.tuple #[.agg #[.string (ofN s.f0), .string (ofN s.f1), .string (ofN s.f2)], .int .i64 s.n, .bool true]) ∧ Below w.heap.size w w'
/-- The three texts in memory. -/
def F3 (w0 w : World) (s : FS) : Prop := w.heap[w0.heap.size + 1]? = some (.cells #[.string (ofN s.f0), .string (ofN s.f1), .string (ofN s.f2)] 123 (0, 0)) ∧ w.heap[w0.heap.size]? = some (.cells #[.string ⟨#[]⟩, .string ⟨#[]⟩, .string ⟨#[]⟩] 116 (0, 0)) ∧ Below w0.heap.size w0 w
set_option maxRecDepth 100000 in
set_option maxHeartbeats 3200000 in
theorem find_any (op : Nat) (res : FS) (hres : rowOf op = some res) (w : World) : Calls Try.prog 75 #[.int .i64 (op : Int), .string ⟨#[32]⟩] w (RowEnd res w) := by
  go_enter Try.func75, Try.ntmps75
  obtain ⟨T, hT⟩ : ∃ T, T = tblC := ⟨_, rfl⟩
  have HT := Lib.hid (hT.trans tblC_eq)
  have hsz : T.size = 1212 := T_size HT.out
  generalize hT2 : ({ data := ((((([115, 101, 95, 105, 108, 108, 101, 103, 97, 108, 58, 48, 48, 48, 48, 58, 124, 115, 101, 95, 105, 115, 121, 110, 99, 58, 48, 48, 48, 49, 58, 124, 115, 101, 95, 115, 99].append [58, 48, 48, 48, 50, 58, 124, 115, 101, 95, 98, 108, 114, 58, 48, 48, 48, 52, 58, 124, 115, 101, 95, 98, 99, 116, 114, 58, 48, 48, 48, 54, 58, 124, 115, 101, 95, 110]).append ([111, 116, 58, 48, 48, 50, 48, 58, 88, 124, 115, 101, 95, 110, 101, 103, 58, 48, 48, 51, 48, 58, 88, 124, 115, 101, 95, 109, 102, 108, 114, 58, 48, 48, 56, 48, 58, 88].append [124, 115, 101, 95, 109, 116, 108, 114, 58, 48, 48, 57, 48, 58, 88, 124, 115, 101, 95, 109, 102, 99, 116, 114, 58, 48, 48, 97, 48, 58, 88, 124, 115, 101, 95, 109, 116, 99])).append (([116, 114, 58, 48, 48, 98, 48, 58, 88, 124, 115, 101, 95, 101, 120, 116, 122, 98, 58, 48, 48, 99, 48, 58, 88, 124, 115, 101, 95, 101, 120, 116, 115, 98, 58, 48, 48, 100].append [48, 58, 88, 124, 115, 101, 95, 101, 120, 116, 122, 104, 58, 48, 48, 101, 48, 58, 88, 124, 115, 101, 95, 101, 120, 116, 115, 104, 58, 48, 48, 102, 48, 58, 88, 124, 115, 101]).append ([95, 109, 114, 58, 48, 49, 48, 48, 58, 88, 32, 89, 124, 115, 101, 95, 97, 100, 100, 58, 48, 52, 48, 48, 58, 88, 32, 89, 124, 115, 101, 95, 109, 117, 108, 108, 119, 58].append [48, 53, 48, 48, 58, 88, 32, 89, 124, 115, 101, 95, 115, 117, 98, 58, 48, 54, 48, 48, 58, 88, 32, 89, 124, 115, 101, 95, 99, 109, 112, 58, 48, 99, 48, 48, 58, 88]))).append ((([32, 89, 124, 115, 101, 95, 99, 109, 112, 108, 58, 48, 100, 48, 48, 58, 88, 32, 89, 124, 115, 101, 95, 97, 100, 100, 105, 58, 50, 48, 48, 48, 58, 88, 32, 79, 53].append [124, 115, 101, 95, 99, 109, 112, 108, 105, 58, 50, 50, 48, 48, 58, 88, 32, 79, 53, 124, 115, 101, 95, 115, 117, 98, 105, 58, 50, 52, 48, 48, 58, 88, 32, 79, 53, 124]).append ([115, 101, 95, 99, 109, 112, 105, 58, 50, 97, 48, 48, 58, 88, 32, 85, 53, 124, 115, 101, 95, 111, 114, 58, 52, 52, 48, 48, 58, 88, 32, 89, 124, 115, 101, 95, 97, 110].append [100, 99, 58, 52, 53, 48, 48, 58, 88, 32, 89, 124, 115, 101, 95, 97, 110, 100, 58, 52, 54, 48, 48, 58, 88, 32, 89, 124, 115, 101, 95, 108, 105, 58, 52, 56, 48, 48])).append (([58, 88, 32, 85, 55, 124, 115, 101, 95, 98, 99, 108, 114, 105, 58, 54, 48, 48, 48, 58, 88, 32, 85, 53, 124, 115, 101, 95, 98, 115, 101, 116, 105, 58, 54, 52, 48, 48].append [58, 88, 32, 85, 53, 124, 115, 101, 95, 98, 116, 115, 116, 105, 58, 54, 54, 48, 48, 58, 88, 32, 85, 53, 124, 115, 101, 95, 115, 114, 119, 105, 58, 54, 56, 48, 48, 58]).append ([88, 32, 85, 53, 124, 115, 101, 95, 115, 108, 119, 105, 58, 54, 99, 48, 48, 58, 88, 32, 85, 53, 124, 115, 101, 95, 108, 98, 122, 58, 56, 48, 48, 48, 58, 89, 32, 77].append [49, 32, 88, 124, 115, 101, 95, 115, 116, 98, 58, 57, 48, 48, 48, 58, 89, 32, 77, 49, 32, 88, 124, 115, 101, 95, 108, 104, 122, 58, 97, 48, 48, 48, 58, 89, 32, 77])))).append (((([50, 32, 88, 124, 115, 101, 95, 115, 116, 104, 58, 98, 48, 48, 48, 58, 89, 32, 77, 50, 32, 88, 124, 115, 101, 95, 108, 119, 122, 58, 99, 48, 48, 48, 58, 89, 32].append [77, 52, 32, 88, 124, 115, 101, 95, 115, 116, 119, 58, 100, 48, 48, 48, 58, 89, 32, 77, 52, 32, 88, 124, 115, 101, 95, 98, 99, 58, 101, 48, 48, 48, 58, 79, 49, 32]).append ([73, 50, 32, 84, 56, 124, 115, 101, 95, 98, 58, 101, 56, 48, 48, 58, 84, 56, 124, 115, 101, 95, 98, 108, 58, 101, 57, 48, 48, 58, 84, 56, 124, 101, 95, 97, 100, 100].append [49, 54, 105, 58, 49, 99, 48, 48, 48, 48, 48, 48, 58, 68, 32, 65, 32, 83, 49, 54, 124, 101, 95, 97, 100, 100, 105, 58, 49, 56, 48, 48, 56, 48, 48, 48, 58, 68])).append (([32, 65, 32, 67, 56, 124, 101, 95, 97, 110, 100, 105, 58, 49, 56, 48, 48, 99, 48, 48, 48, 58, 65, 32, 68, 32, 67, 56, 124, 101, 95, 111, 114, 105, 58, 49, 56, 48].append [48, 100, 48, 48, 48, 58, 65, 32, 68, 32, 67, 56, 124, 101, 95, 120, 111, 114, 105, 58, 49, 56, 48, 48, 101, 48, 48, 48, 58, 65, 32, 68, 32, 67, 56, 124, 101, 95]).append ([108, 105, 58, 55, 48, 48, 48, 48, 48, 48, 48, 58, 68, 32, 76, 50, 48, 124, 101, 95, 108, 98, 122, 58, 51, 48, 48, 48, 48, 48, 48, 48, 58, 68, 32, 83, 49, 54].append [32, 65, 124, 101, 95, 115, 116, 98, 58, 51, 52, 48, 48, 48, 48, 48, 48, 58, 68, 32, 83, 49, 54, 32, 65, 124, 101, 95, 108, 104, 97, 58, 51, 56, 48, 48, 48, 48]))).append ((([48, 48, 58, 68, 32, 83, 49, 54, 32, 65, 124, 101, 95, 108, 119, 122, 58, 53, 48, 48, 48, 48, 48, 48, 48, 58, 68, 32, 83, 49, 54, 32, 65, 124, 101, 95, 115].append [116, 119, 58, 53, 52, 48, 48, 48, 48, 48, 48, 58, 68, 32, 83, 49, 54, 32, 65, 124, 101, 95, 108, 104, 122, 58, 53, 56, 48, 48, 48, 48, 48, 48, 58, 68, 32, 83]).append ([49, 54, 32, 65, 124, 101, 95, 115, 116, 104, 58, 53, 99, 48, 48, 48, 48, 48, 48, 58, 68, 32, 83, 49, 54, 32, 65, 124, 101, 95, 98, 58, 55, 56, 48, 48, 48, 48].append [48, 48, 58, 84, 50, 52, 124, 101, 95, 98, 108, 58, 55, 56, 48, 48, 48, 48, 48, 49, 58, 84, 50, 52, 124, 101, 95, 98, 99, 58, 55, 97, 48, 48, 48, 48, 48, 48])).append (([58, 79, 50, 32, 73, 52, 32, 84, 49, 53, 124, 101, 95, 98, 99, 108, 58, 55, 97, 48, 48, 48, 48, 48, 49, 58, 79, 50, 32, 73, 52, 32, 84, 49, 53, 124, 97, 100].append [100, 58, 55, 99, 48, 48, 48, 50, 49, 52, 58, 68, 32, 65, 32, 66, 124, 115, 117, 98, 102, 58, 55, 99, 48, 48, 48, 48, 53, 48, 58, 68, 32, 65, 32, 66, 124, 109]).append ([117, 108, 108, 119, 58, 55, 99, 48, 48, 48, 49, 100, 54, 58, 68, 32, 65, 32, 66, 124, 97, 110, 100, 58, 55, 99, 48, 48, 48, 48, 51, 56, 58, 65, 32, 68, 32, 66].append [124, 111, 114, 58, 55, 99, 48, 48, 48, 51, 55, 56, 58, 65, 32, 68, 32, 66, 124, 120, 111, 114, 58, 55, 99, 48, 48, 48, 50, 55, 56, 58, 65, 32, 68, 32, 66, 124]))))).toArray } : ByteArray) = T2
  obtain rfl : T2 = T := by rw [hT, ← hT2]; rfl
  clear hT hT2
  have H0 := Lib.hid hres
  clear hres
  go_wp2_with fail
  have hz : ∀ o : Obj, (w.alloc o).heap.size = w.heap.size + 1 := fun o => by simp
  have hF0 : F3 w ((w.alloc (.cells #[.string ⟨#[]⟩, .string ⟨#[]⟩, .string ⟨#[]⟩] 116)).alloc (.cells #[.string ⟨#[]⟩, .string ⟨#[]⟩, .string ⟨#[]⟩] 123)) ⟨0, 0, 0, [], [], []⟩ := by
    refine ⟨?_, (Below.heap_alloc _ _ _ (by simp)).trans (heap_alloc_new w _), ((Below.refl _ _).alloc (Nat.le_refl _) _).alloc (by simp) _⟩
    have := heap_alloc_new (w.alloc (.cells #[.string ⟨#[]⟩, .string ⟨#[]⟩, .string ⟨#[]⟩] 116)) (.cells #[.string ⟨#[]⟩, .string ⟨#[]⟩, .string ⟨#[]⟩] 123)
    rw [hz] at this
    exact this
  clear hz
  go_loopw [7, 8, 10, 11] (fun vn va vk vi wr => ∃ (i : Nat) (s : FS), i ≤ 1212 ∧ s.n ≤ i ∧ s.at_ ≤ i ∧ s.k ≤ i ∧ vn = .int .i64 s.n ∧ va = .int .i64 s.at_ ∧ vk = .int .i64 s.k ∧ vi = .int .i64 i ∧ Hid (runF op (tblN.drop i) i s = some res) ∧ F3 w wr s) (fun _ _ _ vi _ => 1212 - (intOf vi).toNat)
  case atStart => exact ⟨0, ⟨0, 0, 0, [], [], []⟩, by omega, by simp, by simp, by simp, rfl, rfl, rfl, rfl, H0, hF0⟩
  case round =>
    clear hF0
    obtain ⟨i, ⟨sn, sk, sa, g0, g1, g2⟩, hi, hn, ha, hkk, rfl, rfl, rfl, rfl, HR, hF⟩ := hrel
    dsimp only at hn ha hkk
    by_cases hlt : i < 1212
    · have hlt' : i < T2.size := by omega
      obtain ⟨c, hc, hc256, hTc⟩ := T_get HT.out hlt hlt'
      have hdr : tblN.drop i = c :: tblN.drop (i + 1) := by
        have hl : i < tblN.length := (List.getElem?_eq_some_iff.1 hc).1
        rw [List.drop_eq_getElem_cons hl, (List.getElem?_eq_some_iff.1 hc).2]
      have hR := HR.out
      rw [hdr, runF] at hR
      clear hdr hc
      by_cases hsep : c ≠ 58 ∧ c ≠ 124
      · rw [if_pos hsep] at hR
        obtain ⟨e1, e2⟩ := hsep
        have HR2 := Lib.hid hR
        clear hR
        have t1 : ((c : Int) != 58) = true := by simpa using fun h => e1 (by omega)
        have t2 : ((c : Int) != 124) = true := by simpa using fun h => e2 (by omega)
        go_wp2_with fail
        go_roundw
        case rel => exact ⟨i + 1, ⟨sn, sk, sa, g0, g1, g2⟩, by omega, by show sn ≤ _; omega, by show sa ≤ _; omega, by show sk ≤ _; omega, rfl, rfl, rfl, by go_num, HR2, hF⟩
        case measure => simp [intOf]; omega
      · rw [if_neg hsep] at hR
        by_cases hk3 : sk < 3 ∧ sa ≤ i
        · rw [if_pos hk3] at hR
          obtain ⟨hk3, -⟩ := hk3
          have hnot : (c = 58 ∨ c = 124) := by omega
          obtain ⟨hb, hq, hB⟩ := hF
          have hlt2 : w.heap.size + 1 < wr.heap.size := (Array.getElem?_eq_some_iff.1 hb).1
          have hfz : ∀ o, wr.frozen? ⟨w.heap.size + 1, o, none⟩ = false := fun o => by simp [World.frozen?, hb]
          have hfz4 : ∀ o, wr.frozen? ⟨w.heap.size, o, none⟩ = false := fun o => by simp [World.frozen?, hq]
          have hc0 : wr.cell? ⟨w.heap.size + 1, 0, none⟩ = some (.string (ofN g0)) := by simp [World.cell?, hb]
          have hc1 : wr.cell? ⟨w.heap.size + 1, 1, none⟩ = some (.string (ofN g1)) := by simp [World.cell?, hb]
          have hc2 : wr.cell? ⟨w.heap.size + 1, 2, none⟩ = some (.string (ofN g2)) := by simp [World.cell?, hb]
          have hex : T2.extract sa i = ofN ((tblN.drop sa).take (i - sa)) := by rw [HT.out, ofN_drop]
          have hput : ∀ k, sk = k → k < 3 → F3 w (wr.setCell ⟨w.heap.size + 1, k, none⟩ (.string (ofN ((tblN.drop sa).take (i - sa))))) ((FS.mk sn sk sa g0 g1 g2).put i) := fun k hk hk3 => by
            refine ⟨?_, (Below.heap_setCell wr ⟨w.heap.size + 1, k, none⟩ _ _ (show w.heap.size ≠ w.heap.size + 1 by omega)).trans hq, hB.setCell (p := ⟨w.heap.size + 1, k, none⟩) (show w.heap.size ≤ w.heap.size + 1 by omega) _⟩
            rcases (show k = 0 ∨ k = 1 ∨ k = 2 by omega) with rfl | rfl | rfl <;> simp [World.setCell, Array.getElem?_modify, hb, FS.put, hk]
          have HP := Lib.hid hput
          have hfz0 := hfz 0
          have hfz1 := hfz 1
          have hfz2 := hfz 2
          have hz0 : wr.cell? ⟨w.heap.size, 0, none⟩ = some (.string ⟨#[]⟩) := by simp [World.cell?, hq]
          have hz1 : wr.cell? ⟨w.heap.size, 1, none⟩ = some (.string ⟨#[]⟩) := by simp [World.cell?, hq]
          have hz2 : wr.cell? ⟨w.heap.size, 2, none⟩ = some (.string ⟨#[]⟩) := by simp [World.cell?, hq]
          have hy0 := hfz4 0
          have hy1 := hfz4 1
          have hy2 := hfz4 2
          have hnb : w.heap.size ≠ w.heap.size + 1 := by omega
          clear hput hq hfz hb hB hfz4
          rcases hnot with rfl | rfl
          · rw [if_neg (by decide)] at hR
            have HR2 := Lib.hid hR
            clear hR
            rcases (show sk = 0 ∨ sk = 1 ∨ sk = 2 by omega) with rfl | rfl | rfl
            all_goals
              have HPP := HP.out _ rfl (by decide)
              go_wp2_with fail
              go_roundw
              case rel => exact ⟨i + 1, (FS.mk sn _ sa g0 g1 g2).put i, by omega, by show sn ≤ _; omega, by show i + 1 ≤ _; omega, by simp only [FS.put]; omega, rfl, by show _ = Value.int _ ((i + 1 : Nat) : Int); go_num, rfl, by go_num, HR2, HPP⟩
              case measure => simp [intOf]; omega
          · rw [if_pos rfl] at hR
            by_cases hop : sn = op
            · rw [if_pos hop] at hR
              obtain rfl := Option.some.inj hR
              have hop2 : ((sn : Int) == (op : Int)) = true := by rw [hop]; simp
              rcases (show sk = 0 ∨ sk = 1 ∨ sk = 2 by omega) with rfl | rfl | rfl
              · have HPP := HP.out _ rfl (by decide)
                go_wp2_with fail
                generalize wr.setCell ⟨w.heap.size + 1, _, none⟩ (Value.string (ofN (List.take (i - sa) (List.drop sa tblN)))) = W1 at *
                obtain ⟨_, hq1, hB1⟩ := HPP
                obtain ⟨q0, q1, q2⟩ := put3t hq1 (.string (ofN (List.take (i - sa) (List.drop sa tblN)))) (.string (ofN g1)) (.string (ofN g2))
                exact bodyPost_ret (v := .tuple #[.agg #[.string (ofN (List.take (i - sa) (List.drop sa tblN))), .string (ofN g1), .string (ofN g2)], .int .i64 op, .bool true]) (by simp [results, Try.results75, go_sem, q0, q1, q2]) rfl ⟨rfl, ((hB1.setCell (p := ⟨w.heap.size, 0, none⟩) (Nat.le_refl _) _).setCell (p := ⟨w.heap.size, 1, none⟩) (Nat.le_refl _) _).setCell (p := ⟨w.heap.size, 2, none⟩) (Nat.le_refl _) _⟩
              · have HPP := HP.out _ rfl (by decide)
                go_wp2_with fail
                generalize wr.setCell ⟨w.heap.size + 1, _, none⟩ (Value.string (ofN (List.take (i - sa) (List.drop sa tblN)))) = W1 at *
                obtain ⟨_, hq1, hB1⟩ := HPP
                obtain ⟨q0, q1, q2⟩ := put3t hq1 (.string (ofN g0)) (.string (ofN (List.take (i - sa) (List.drop sa tblN)))) (.string (ofN g2))
                exact bodyPost_ret (v := .tuple #[.agg #[.string (ofN g0), .string (ofN (List.take (i - sa) (List.drop sa tblN))), .string (ofN g2)], .int .i64 op, .bool true]) (by simp [results, Try.results75, go_sem, q0, q1, q2]) rfl ⟨rfl, ((hB1.setCell (p := ⟨w.heap.size, 0, none⟩) (Nat.le_refl _) _).setCell (p := ⟨w.heap.size, 1, none⟩) (Nat.le_refl _) _).setCell (p := ⟨w.heap.size, 2, none⟩) (Nat.le_refl _) _⟩
              · have HPP := HP.out _ rfl (by decide)
                go_wp2_with fail
                generalize wr.setCell ⟨w.heap.size + 1, _, none⟩ (Value.string (ofN (List.take (i - sa) (List.drop sa tblN)))) = W1 at *
                obtain ⟨_, hq1, hB1⟩ := HPP
                obtain ⟨q0, q1, q2⟩ := put3t hq1 (.string (ofN g0)) (.string (ofN g1)) (.string (ofN (List.take (i - sa) (List.drop sa tblN))))
                exact bodyPost_ret (v := .tuple #[.agg #[.string (ofN g0), .string (ofN g1), .string (ofN (List.take (i - sa) (List.drop sa tblN)))], .int .i64 op, .bool true]) (by simp [results, Try.results75, go_sem, q0, q1, q2]) rfl ⟨rfl, ((hB1.setCell (p := ⟨w.heap.size, 0, none⟩) (Nat.le_refl _) _).setCell (p := ⟨w.heap.size, 1, none⟩) (Nat.le_refl _) _).setCell (p := ⟨w.heap.size, 2, none⟩) (Nat.le_refl _) _⟩
            · rw [if_neg hop] at hR
              by_cases hf0 : ((FS.mk sn sk sa g0 g1 g2).put i).f0.length ≤ 1
              · rw [if_pos hf0] at hR
                cases hR
              · rw [if_neg hf0] at hR
                have hop2 : ((sn : Int) == (op : Int)) = false := by simpa using fun h => hop (by omega)
                have HR2 := Lib.hid hR
                clear hR
                have hne : ∀ x : List Nat, ¬ x.length ≤ 1 → ((ofN x).toList == [32]) = false := fun x hx => by
                  rw [beq_eq_false_iff_ne]
                  intro h
                  have h4 := congrArg List.length h
                  rw [Go.ByteArray.toList_eq] at h4
                  have h3 : (ofN x).data.toList.length = x.length := by rw [Array.length_toList]; exact ofN_size x
                  have h5 : [(32 : UInt8)].length = 1 := rfl
                  omega
                rcases (show sk = 0 ∨ sk = 1 ∨ sk = 2 by omega) with rfl | rfl | rfl
                all_goals
                  have hne0 := hne _ hf0
                  simp only [FS.put] at hne0
                  first | rw [if_pos trivial] at hne0 | rw [if_pos rfl] at hne0 | rw [if_neg (by decide)] at hne0
                  have HPP := HP.out _ rfl (by decide)
                  clear hne
                  go_wp2_with fail
                  go_roundw
                  case rel => exact ⟨i + 1, ⟨sn + 1, 0, i + 1, ((FS.mk sn _ sa g0 g1 g2).put i).f0, ((FS.mk sn _ sa g0 g1 g2).put i).f1, ((FS.mk sn _ sa g0 g1 g2).put i).f2⟩, by omega, by show sn + 1 ≤ _; omega, by show i + 1 ≤ _; omega, Nat.zero_le _, by show _ = Value.int _ ((sn + 1 : Nat) : Int); go_num, by show _ = Value.int _ ((i + 1 : Nat) : Int); go_num, rfl, by go_num, HR2, HPP⟩
                  case measure => simp [intOf]; omega
        · rw [if_neg hk3] at hR
          cases hR
    · obtain rfl : i = 1212 := by omega
      have := HR.out
      rw [List.drop_of_length_le (by rw [tblN_len]; exact Nat.le_refl _)] at this
      cases this
end Go.Proofs.Ytifdkkkcecpjoaa
end
section
/-
  The small functions behind the texts of lines: their contracts (by the print of the kit, the finding of a row by hand).
-/
namespace Go.Proofs.Ytifdkkkcecpjoaa.Tx
open Go.RowKit Go.Proofs.YtifdkkkcecpjoaaW.PrintWords Go.Proofs.YtifdkkkcecpjoaaW.PrintLast Go.Proofs.YtifdkkkcecpjoaaW.PrintMore
attribute [local go_sem] max2_int min2_int max_two min_two max_three min_three max_four min_four   -- for this text's walks alone
set_option linter.unusedVariables false
set_option linter.unusedSimpArgs false

def errW : Option Int → Value
  | none => .nilIface
  | some c => .iface 0 (.int .i64 c)
theorem errW_none : errW none = .nilIface := rfl
theorem errW_some (c : Int) : errW (some c) = .iface 0 (.int .i64 c) := rfl

theorem info5 : (Try.prog.info? 5).map (fun i => (i.zero, i.size, i.bytes)) = some (some (.int .u8 0), 1, 1) := by kernel_rfl
theorem info9 : (Try.prog.info? 9).map (fun i => (i.zero, i.size, i.bytes)) = some (some (.string ⟨#[]⟩), 1, 16) := by kernel_rfl
-- the values' own types
/-! #### struct type 102, nested in itself -/
structure S102 where
  f0 : Int
  f1 : Int
  f2 : ByteArray
  f3 : (List S102)
def z102 : S102 := ⟨(0 : Int), (0 : Int), (⟨#[]⟩ : ByteArray), ([] : List S102)⟩
def F102 (d : Kd S102) : Kd S102 := Kd.iso (Kd.pair (Kd.int .i64) (Kd.pair (Kd.int .i64) (Kd.pair Kd.string (Kd.slice 102 d)))) (fun x : S102 => (x.f0, x.f1, x.f2, x.f3))
theorem mono102 : Kd.Mono F102 := Kd.mono_iso _ (Kd.mono_pair (Kd.mono_const _) (Kd.mono_pair (Kd.mono_const _) (Kd.mono_pair (Kd.mono_const _) (Kd.mono_slice 102 Kd.mono_id))))
theorem sub102 : Kd.Sub F102 [102] := Kd.sub_iso _ (Kd.sub_pair (Kd.sub_const _ (by decide)) (Kd.sub_pair (Kd.sub_const _ (by decide)) (Kd.sub_pair (Kd.sub_const _ (by decide)) (Kd.sub_slice 102 (by decide) Kd.sub_id))))
theorem sz102 : ∀ n, (Kd.upto F102 4 [102] n).sz = 4 := Kd.upto_sz (fun _ => rfl)
def k102 : Kd S102 := Kd.fix F102 4 [102] sz102 (Kd.upto_E sub102)
theorem k102_open {w : World} {x : S102} {cs : List Value} (h : k102.K w x cs) : ∃ A3 c3, cs = [.int .i64 x.f0, .int .i64 x.f1, .string x.f2, .slice A3 x.f3.length c3] ∧ x.f3.length ≤ c3 ∧ k102.C w A3 x.f3.length x.f3 := by
  obtain ⟨n, h⟩ := h
  cases n with
  | zero => exact h.elim
  | succ n =>
    obtain ⟨_, _, rfl, rfl, ⟨_, _, rfl, rfl, ⟨_, _, rfl, rfl, ⟨A3, c3, rfl, l3, g3⟩⟩⟩⟩ := h
    exact ⟨A3, c3, rfl, l3, Kd.fix_C g3⟩
theorem k102_mkM (w : World) (base : Nat) (ok : Nat → Prop) (x : S102) {v3 : Value} (g3 : k102.R 102 w base ok v3 x.f3) : k102.M w base ok x [.int .i64 x.f0, .int .i64 x.f1, .string x.f2, v3] := by
  obtain ⟨n3, q3⟩ := Kd.fix_R_back mono102 g3
  have r3 := Kd.upto_R_le mono102 sz102 (show n3 ≤ n3 by omega) q3
  exact ⟨n3 + 1, ⟨[.int .i64 x.f0], [.int .i64 x.f1, .string x.f2, v3], rfl, rfl, ⟨[.int .i64 x.f1], [.string x.f2, v3], rfl, rfl, ⟨[.string x.f2], [v3], rfl, rfl, ⟨v3, rfl, r3⟩⟩⟩⟩⟩
def rd_T102 (xs : List S102) (i : Int) : S102 := xs.getD i.toNat z102
theorem at_T102 {w : World} {A : Option Addr} {n : Nat} {xs : List S102} (h : Kd.C k102 w A n xs) (i : Int) (h0 : 0 ≤ i) (h1 : i < n) : ∃ ad A3 c3, A = some ad ∧ w.cell? (ad.add (i.toNat * 4)) = some (.int .i64 (rd_T102 xs i).f0) ∧ w.cell? ⟨(ad.add (i.toNat * 4)).block, (ad.add (i.toNat * 4)).off + 1, none⟩ = some (.int .i64 (rd_T102 xs i).f1) ∧ w.cell? ⟨(ad.add (i.toNat * 4)).block, (ad.add (i.toNat * 4)).off + 2, none⟩ = some (.string (rd_T102 xs i).f2) ∧ w.cell? ⟨(ad.add (i.toNat * 4)).block, (ad.add (i.toNat * 4)).off + 3, none⟩ = some (.slice A3 (rd_T102 xs i).f3.length c3) ∧ (rd_T102 xs i).f3.length ≤ c3 ∧ k102.C w A3 (rd_T102 xs i).f3.length (rd_T102 xs i).f3 := by
  obtain ⟨ad, c, e, _, hK, hc0⟩ := Kd.C_get h z102 i h0 h1
  have hc : ∀ j u, c[j]? = some u → w.cell? (ad.add (i.toNat * 4 + j)) = some u := hc0
  obtain ⟨A3, c3, rfl, l3, g3⟩ := k102_open hK
  exact ⟨ad, A3, c3, e, hc 0 _ rfl, by rw [← add_field _ _ 1 (by omega)]; exact hc 1 _ rfl, by rw [← add_field _ _ 2 (by omega)]; exact hc 2 _ rfl, by rw [← add_field _ _ 3 (by omega)]; exact hc 3 _ rfl, l3, g3⟩

/-! #### struct type 104 -/
structure S104 where
  f0 : Int
  f1 : S102
def z104 : S104 := ⟨(0 : Int), z102⟩
def k104 : Kd S104 := Kd.iso (Kd.pair (Kd.int .i64) k102) (fun x : S104 => (x.f0, x.f1))
theorem k104_open {w : World} {x : S104} {cs : List Value} (h : k104.K w x cs) : ∃ A4 c4, cs = [.int .i64 x.f0, .int .i64 x.f1.f0, .int .i64 x.f1.f1, .string x.f1.f2, .slice A4 x.f1.f3.length c4] ∧ x.f1.f3.length ≤ c4 ∧ k102.C w A4 x.f1.f3.length x.f1.f3 := by
  obtain ⟨_, _, rfl, rfl, s1⟩ := h
  obtain ⟨A4, c4, rfl, l4, g4⟩ := k102_open s1
  exact ⟨A4, c4, rfl, l4, g4⟩
theorem k104_mkM (w : World) (base : Nat) (ok : Nat → Prop) (x : S104) {v4 : Value} (g4 : k102.R 102 w base ok v4 x.f1.f3) : k104.M w base ok x [.int .i64 x.f0, .int .i64 x.f1.f0, .int .i64 x.f1.f1, .string x.f1.f2, v4] := ⟨[.int .i64 x.f0], [.int .i64 x.f1.f0, .int .i64 x.f1.f1, .string x.f1.f2, v4], rfl, rfl, (k102_mkM w base ok x.f1 g4)⟩
def rd_T104 (xs : List S104) (i : Int) : S104 := xs.getD i.toNat z104
theorem at_T104 {w : World} {A : Option Addr} {n : Nat} {xs : List S104} (h : Kd.C k104 w A n xs) (i : Int) (h0 : 0 ≤ i) (h1 : i < n) : ∃ ad A4 c4, A = some ad ∧ w.cell? (ad.add (i.toNat * 5)) = some (.int .i64 (rd_T104 xs i).f0) ∧ w.cell? ⟨(ad.add (i.toNat * 5)).block, (ad.add (i.toNat * 5)).off + 1, none⟩ = some (.int .i64 (rd_T104 xs i).f1.f0) ∧ w.cell? ⟨(ad.add (i.toNat * 5)).block, (ad.add (i.toNat * 5)).off + 2, none⟩ = some (.int .i64 (rd_T104 xs i).f1.f1) ∧ w.cell? ⟨(ad.add (i.toNat * 5)).block, (ad.add (i.toNat * 5)).off + 3, none⟩ = some (.string (rd_T104 xs i).f1.f2) ∧ w.cell? ⟨(ad.add (i.toNat * 5)).block, (ad.add (i.toNat * 5)).off + 4, none⟩ = some (.slice A4 (rd_T104 xs i).f1.f3.length c4) ∧ (rd_T104 xs i).f1.f3.length ≤ c4 ∧ k102.C w A4 (rd_T104 xs i).f1.f3.length (rd_T104 xs i).f1.f3 := by
  obtain ⟨ad, c, e, _, hK, hc0⟩ := Kd.C_get h z104 i h0 h1
  have hc : ∀ j u, c[j]? = some u → w.cell? (ad.add (i.toNat * 5 + j)) = some u := hc0
  obtain ⟨A4, c4, rfl, l4, g4⟩ := k104_open hK
  exact ⟨ad, A4, c4, e, hc 0 _ rfl, by rw [← add_field _ _ 1 (by omega)]; exact hc 1 _ rfl, by rw [← add_field _ _ 2 (by omega)]; exact hc 2 _ rfl, by rw [← add_field _ _ 3 (by omega)]; exact hc 3 _ rfl, by rw [← add_field _ _ 4 (by omega)]; exact hc 4 _ rfl, l4, g4⟩

/-! #### struct type 99, nested in itself -/
structure S99 where
  f0 : Int
  f1 : Int
  f2 : (List S99)
def z99 : S99 := ⟨(0 : Int), (0 : Int), ([] : List S99)⟩
def F99 (d : Kd S99) : Kd S99 := Kd.iso (Kd.pair (Kd.int .i64) (Kd.pair (Kd.int .i64) (Kd.slice 99 d))) (fun x : S99 => (x.f0, x.f1, x.f2))
theorem mono99 : Kd.Mono F99 := Kd.mono_iso _ (Kd.mono_pair (Kd.mono_const _) (Kd.mono_pair (Kd.mono_const _) (Kd.mono_slice 99 Kd.mono_id)))
theorem sub99 : Kd.Sub F99 [99] := Kd.sub_iso _ (Kd.sub_pair (Kd.sub_const _ (by decide)) (Kd.sub_pair (Kd.sub_const _ (by decide)) (Kd.sub_slice 99 (by decide) Kd.sub_id)))
theorem sz99 : ∀ n, (Kd.upto F99 3 [99] n).sz = 3 := Kd.upto_sz (fun _ => rfl)
def k99 : Kd S99 := Kd.fix F99 3 [99] sz99 (Kd.upto_E sub99)
theorem k99_open {w : World} {x : S99} {cs : List Value} (h : k99.K w x cs) : ∃ A2 c2, cs = [.int .i64 x.f0, .int .i64 x.f1, .slice A2 x.f2.length c2] ∧ x.f2.length ≤ c2 ∧ k99.C w A2 x.f2.length x.f2 := by
  obtain ⟨n, h⟩ := h
  cases n with
  | zero => exact h.elim
  | succ n =>
    obtain ⟨_, _, rfl, rfl, ⟨_, _, rfl, rfl, ⟨A2, c2, rfl, l2, g2⟩⟩⟩ := h
    exact ⟨A2, c2, rfl, l2, Kd.fix_C g2⟩
theorem k99_mk (w : World) (x : S99) {A2 : Option Addr} {c2 : Nat} (l2 : x.f2.length ≤ c2) (g2 : k99.C w A2 x.f2.length x.f2) : k99.K w x [.int .i64 x.f0, .int .i64 x.f1, .slice A2 x.f2.length c2] := by
  obtain ⟨n2, q2⟩ := Kd.fix_C_back mono99 g2
  have r2 := Kd.upto_C_le mono99 sz99 (show n2 ≤ n2 by omega) q2
  exact ⟨n2 + 1, ⟨[.int .i64 x.f0], [.int .i64 x.f1, .slice A2 x.f2.length c2], rfl, rfl, ⟨[.int .i64 x.f1], [.slice A2 x.f2.length c2], rfl, rfl, ⟨A2, c2, rfl, l2, r2⟩⟩⟩⟩
def rd_T99 (xs : List S99) (i : Int) : S99 := xs.getD i.toNat z99
theorem at_T99 {w : World} {A : Option Addr} {n : Nat} {xs : List S99} (h : Kd.C k99 w A n xs) (i : Int) (h0 : 0 ≤ i) (h1 : i < n) : ∃ ad A2 c2, A = some ad ∧ w.cell? (ad.add (i.toNat * 3)) = some (.int .i64 (rd_T99 xs i).f0) ∧ w.cell? ⟨(ad.add (i.toNat * 3)).block, (ad.add (i.toNat * 3)).off + 1, none⟩ = some (.int .i64 (rd_T99 xs i).f1) ∧ w.cell? ⟨(ad.add (i.toNat * 3)).block, (ad.add (i.toNat * 3)).off + 2, none⟩ = some (.slice A2 (rd_T99 xs i).f2.length c2) ∧ (rd_T99 xs i).f2.length ≤ c2 ∧ k99.C w A2 (rd_T99 xs i).f2.length (rd_T99 xs i).f2 := by
  obtain ⟨ad, c, e, _, hK, hc0⟩ := Kd.C_get h z99 i h0 h1
  have hc : ∀ j u, c[j]? = some u → w.cell? (ad.add (i.toNat * 3 + j)) = some u := hc0
  obtain ⟨A2, c2, rfl, l2, g2⟩ := k99_open hK
  exact ⟨ad, A2, c2, e, hc 0 _ rfl, by rw [← add_field _ _ 1 (by omega)]; exact hc 1 _ rfl, by rw [← add_field _ _ 2 (by omega)]; exact hc 2 _ rfl, l2, g2⟩

/-! #### struct type 63 -/
structure S63 where
  f0 : Int
  f1 : Int
  f2 : Int
  f3 : (List Int)
  f4 : (List S99)
  f5 : Bool
def z63 : S63 := ⟨(0 : Int), (0 : Int), (0 : Int), ([] : List Int), ([] : List S99), false⟩
def k63 : Kd S63 := Kd.iso (Kd.pair (Kd.int .i64) (Kd.pair (Kd.int .i64) (Kd.pair (Kd.int .i64) (Kd.pair (Kd.slice 3 (Kd.int .i64)) (Kd.pair (Kd.slice 99 k99) Kd.bool))))) (fun x : S63 => (x.f0, x.f1, x.f2, x.f3, x.f4, x.f5))
theorem k63_open {w : World} {x : S63} {cs : List Value} (h : k63.K w x cs) : ∃ A3 c3 A4 c4, cs = [.int .i64 x.f0, .int .i64 x.f1, .int .i64 x.f2, .slice A3 x.f3.length c3, .slice A4 x.f4.length c4, .bool x.f5] ∧ x.f3.length ≤ c3 ∧ (Kd.int .i64).C w A3 x.f3.length x.f3 ∧ x.f4.length ≤ c4 ∧ k99.C w A4 x.f4.length x.f4 := by
  obtain ⟨_, _, rfl, rfl, ⟨_, _, rfl, rfl, ⟨_, _, rfl, rfl, ⟨_, _, rfl, ⟨A3, c3, rfl, l3, g3⟩, ⟨_, _, rfl, ⟨A4, c4, rfl, l4, g4⟩, rfl⟩⟩⟩⟩⟩ := h
  exact ⟨A3, c3, A4, c4, rfl, l3, g3, l4, g4⟩
theorem k63_mk (w : World) (x : S63) {A3 : Option Addr} {c3 : Nat} (l3 : x.f3.length ≤ c3) (g3 : (Kd.int .i64).C w A3 x.f3.length x.f3) {A4 : Option Addr} {c4 : Nat} (l4 : x.f4.length ≤ c4) (g4 : k99.C w A4 x.f4.length x.f4) : k63.K w x [.int .i64 x.f0, .int .i64 x.f1, .int .i64 x.f2, .slice A3 x.f3.length c3, .slice A4 x.f4.length c4, .bool x.f5] := ⟨[.int .i64 x.f0], [.int .i64 x.f1, .int .i64 x.f2, .slice A3 x.f3.length c3, .slice A4 x.f4.length c4, .bool x.f5], rfl, rfl, ⟨[.int .i64 x.f1], [.int .i64 x.f2, .slice A3 x.f3.length c3, .slice A4 x.f4.length c4, .bool x.f5], rfl, rfl, ⟨[.int .i64 x.f2], [.slice A3 x.f3.length c3, .slice A4 x.f4.length c4, .bool x.f5], rfl, rfl, ⟨[.slice A3 x.f3.length c3], [.slice A4 x.f4.length c4, .bool x.f5], rfl, ⟨A3, c3, rfl, l3, g3⟩, ⟨[.slice A4 x.f4.length c4], [.bool x.f5], rfl, ⟨A4, c4, rfl, l4, g4⟩, rfl⟩⟩⟩⟩⟩
def rd_T63 (xs : List S63) (i : Int) : S63 := xs.getD i.toNat z63
theorem at_T63 {w : World} {A : Option Addr} {n : Nat} {xs : List S63} (h : Kd.C k63 w A n xs) (i : Int) (h0 : 0 ≤ i) (h1 : i < n) : ∃ ad A3 c3 A4 c4, A = some ad ∧ w.cell? (ad.add (i.toNat * 6)) = some (.int .i64 (rd_T63 xs i).f0) ∧ w.cell? ⟨(ad.add (i.toNat * 6)).block, (ad.add (i.toNat * 6)).off + 1, none⟩ = some (.int .i64 (rd_T63 xs i).f1) ∧ w.cell? ⟨(ad.add (i.toNat * 6)).block, (ad.add (i.toNat * 6)).off + 2, none⟩ = some (.int .i64 (rd_T63 xs i).f2) ∧ w.cell? ⟨(ad.add (i.toNat * 6)).block, (ad.add (i.toNat * 6)).off + 3, none⟩ = some (.slice A3 (rd_T63 xs i).f3.length c3) ∧ w.cell? ⟨(ad.add (i.toNat * 6)).block, (ad.add (i.toNat * 6)).off + 4, none⟩ = some (.slice A4 (rd_T63 xs i).f4.length c4) ∧ w.cell? ⟨(ad.add (i.toNat * 6)).block, (ad.add (i.toNat * 6)).off + 5, none⟩ = some (.bool (rd_T63 xs i).f5) ∧ (rd_T63 xs i).f3.length ≤ c3 ∧ (Kd.int .i64).C w A3 (rd_T63 xs i).f3.length (rd_T63 xs i).f3 ∧ (rd_T63 xs i).f4.length ≤ c4 ∧ k99.C w A4 (rd_T63 xs i).f4.length (rd_T63 xs i).f4 := by
  obtain ⟨ad, c, e, _, hK, hc0⟩ := Kd.C_get h z63 i h0 h1
  have hc : ∀ j u, c[j]? = some u → w.cell? (ad.add (i.toNat * 6 + j)) = some u := hc0
  obtain ⟨A3, c3, A4, c4, rfl, l3, g3, l4, g4⟩ := k63_open hK
  exact ⟨ad, A3, c3, A4, c4, e, hc 0 _ rfl, by rw [← add_field _ _ 1 (by omega)]; exact hc 1 _ rfl, by rw [← add_field _ _ 2 (by omega)]; exact hc 2 _ rfl, by rw [← add_field _ _ 3 (by omega)]; exact hc 3 _ rfl, by rw [← add_field _ _ 4 (by omega)]; exact hc 4 _ rfl, by rw [← add_field _ _ 5 (by omega)]; exact hc 5 _ rfl, l3, g3, l4, g4⟩

end Go.Proofs.Ytifdkkkcecpjoaa.Tx
end
section
/-
  The small functions behind the texts of lines: their contracts (by the print of the kit, the finding of a row by hand).
-/
namespace Go.Proofs.Ytifdkkkcecpjoaa.Tx
open Go.RowKit Go.Proofs.YtifdkkkcecpjoaaW.PrintWords Go.Proofs.YtifdkkkcecpjoaaW.PrintLast Go.Proofs.YtifdkkkcecpjoaaW.PrintMore
attribute [local go_sem] max2_int min2_int max_two min_two max_three min_three max_four min_four   -- for this text's walks alone
set_option linter.unusedVariables false
set_option linter.unusedSimpArgs false

/-! ### letterpresslaw4_Labels: function 65 -/
def letterpresslaw4_Labels.f  : Option (List ByteArray) := some (([(⟨#[97]⟩ : ByteArray), (⟨#[98, 49]⟩ : ByteArray), (⟨#[108, 111, 111, 112]⟩ : ByteArray), (⟨#[120]⟩ : ByteArray)] : List ByteArray))
set_option maxHeartbeats 8000000 in
set_option maxRecDepth 100000 in
theorem letterpresslaw4_Labels.calls  (r : List ByteArray) (w : World) (h : letterpresslaw4_Labels.f  = some r) :
    Calls Try.prog 65 #[] w fun e w' => ∃ v0_ : Value, e = .returned (v0_) ∧ Kd.R Kd.string 9 w' w.heap.size (fun _ => True) v0_ r ∧ Below w.heap.size w w' := by
  have HB := Aside0.mk (Below.refl w.heap.size w)
  have H : (some (([(⟨#[97]⟩ : ByteArray), (⟨#[98, 49]⟩ : ByteArray), (⟨#[108, 111, 111, 112]⟩ : ByteArray), (⟨#[120]⟩ : ByteArray)] : List ByteArray))) = some r := h
  clear h
  obtain ⟨y101, hy101⟩ : ∃ y_ : List ByteArray, y_ = (([(⟨#[97]⟩ : ByteArray), (⟨#[98, 49]⟩ : ByteArray), (⟨#[108, 111, 111, 112]⟩ : ByteArray), (⟨#[120]⟩ : ByteArray)] : List ByteArray)) := ⟨_, rfl⟩
  replace H : (some y101) = some r := by first | (rw [hy101]; with_reducible exact H) | (have H2_ := (Option.bind_some _ _).symm.trans H; rw [hy101]; with_reducible exact H2_) | (have H2_ := (Option.bind_some _ _).symm.trans H; with_reducible exact H2_) | with_reducible exact H | (rw [hy101]; exact H) | exact H
  have Ny101 := Aside0.mk hy101
  clear hy101
  obtain rfl := Option.some.inj H
  go_enter Try.func65, Try.ntmps65
  go_wp2_with (first | ((with_reducible refine gate_dst (N := 1) rfl ?_); refine Kd.R_lit Kd.string _ 9 ?hg (N := 1) ?hd (xs := ([(⟨#[97]⟩ : ByteArray), (⟨#[98, 49]⟩ : ByteArray), (⟨#[108, 111, 111, 112]⟩ : ByteArray), (⟨#[120]⟩ : ByteArray)] : List ByteArray)) (inner := [.string (⟨#[97]⟩ : ByteArray), .string (⟨#[98, 49]⟩ : ByteArray), .string (⟨#[108, 111, 111, 112]⟩ : ByteArray), .string (⟨#[120]⟩ : ByteArray)]) (ok := fun _ => True) (okp := fun _ => True) ?hr ?hp (fun _ hk => hk) trivial (Below.refl _ _) (Nat.le_refl _) (by simp) ?_; (case hd => rfl); (case hg => rfl); (case hr => first | (go_simp; done) | (go_simp; rfl)); (case hp => exact (Reps.one (show Kd.M Kd.string _ _ _ (⟨#[97]⟩ : ByteArray) [.string (⟨#[97]⟩ : ByteArray)] from rfl) (Reps.one (show Kd.M Kd.string _ _ _ (⟨#[98, 49]⟩ : ByteArray) [.string (⟨#[98, 49]⟩ : ByteArray)] from rfl) (Reps.one (show Kd.M Kd.string _ _ _ (⟨#[108, 111, 111, 112]⟩ : ByteArray) [.string (⟨#[108, 111, 111, 112]⟩ : ByteArray)] from rfl) (Reps.one (show Kd.M Kd.string _ _ _ (⟨#[120]⟩ : ByteArray) [.string (⟨#[120]⟩ : ByteArray)] from rfl) (Reps.none _ _)))))); intro v102 w1 ho2 hb hg_ hnew_; clear hg_ hnew_; (first | rw [← Ny101.out] at ho2 | (simp only [Int.reduceToNat] at ho2; rw [← Ny101.out] at ho2)); have n0_ := Aside0.mk (Kd.R_lower ho2 (below_size (by repeat (first | (with_reducible first | exact HB.out | apply below_alloc | apply pw_below_drewN | apply below_drew1) | exact HB.out)))); have n1_ := Aside0.mk (below_step (by repeat (first | (with_reducible first | exact HB.out | apply below_alloc | apply pw_below_drewN | apply below_drew1) | exact HB.out)) hb); clear HB; have HO103 := n0_; have HB := n1_; clear n0_ n1_; clear hb ho2))
  go_ret
  exact ⟨_, by first | rfl | (simp [errW_none, errW_some] <;> rfl) | (simp [*, errW_none, errW_some] <;> rfl), by (with_reducible repeat (first | apply Kd.R_alloc | apply Kd.R_drewN | apply Kd.R_drew)); exact HO103.out, by repeat (first | (with_reducible first | exact HB.out | apply below_alloc | apply pw_below_drewN | apply below_drew1) | exact HB.out)⟩

/-! ### letterpresslaw3_Names: function 85 -/
def letterpresslaw3_Names.f  : Option (List ByteArray) := some (([(⟨#[98, 97, 115, 101]⟩ : ByteArray), (⟨#[120]⟩ : ByteArray), (⟨#[101, 110, 100, 95, 49]⟩ : ByteArray), (⟨#[114]⟩ : ByteArray)] : List ByteArray))
set_option maxHeartbeats 8000000 in
set_option maxRecDepth 100000 in
theorem letterpresslaw3_Names.calls  (r : List ByteArray) (w : World) (h : letterpresslaw3_Names.f  = some r) :
    Calls Try.prog 85 #[] w fun e w' => ∃ v0_ : Value, e = .returned (v0_) ∧ Kd.R Kd.string 9 w' w.heap.size (fun _ => True) v0_ r ∧ Below w.heap.size w w' := by
  have HB := Aside0.mk (Below.refl w.heap.size w)
  have H : (some (([(⟨#[98, 97, 115, 101]⟩ : ByteArray), (⟨#[120]⟩ : ByteArray), (⟨#[101, 110, 100, 95, 49]⟩ : ByteArray), (⟨#[114]⟩ : ByteArray)] : List ByteArray))) = some r := h
  clear h
  obtain ⟨y104, hy104⟩ : ∃ y_ : List ByteArray, y_ = (([(⟨#[98, 97, 115, 101]⟩ : ByteArray), (⟨#[120]⟩ : ByteArray), (⟨#[101, 110, 100, 95, 49]⟩ : ByteArray), (⟨#[114]⟩ : ByteArray)] : List ByteArray)) := ⟨_, rfl⟩
  replace H : (some y104) = some r := by first | (rw [hy104]; with_reducible exact H) | (have H2_ := (Option.bind_some _ _).symm.trans H; rw [hy104]; with_reducible exact H2_) | (have H2_ := (Option.bind_some _ _).symm.trans H; with_reducible exact H2_) | with_reducible exact H | (rw [hy104]; exact H) | exact H
  have Ny104 := Aside0.mk hy104
  clear hy104
  obtain rfl := Option.some.inj H
  go_enter Try.func85, Try.ntmps85
  go_wp2_with (first | ((with_reducible refine gate_dst (N := 1) rfl ?_); refine Kd.R_lit Kd.string _ 9 ?hg (N := 1) ?hd (xs := ([(⟨#[98, 97, 115, 101]⟩ : ByteArray), (⟨#[120]⟩ : ByteArray), (⟨#[101, 110, 100, 95, 49]⟩ : ByteArray), (⟨#[114]⟩ : ByteArray)] : List ByteArray)) (inner := [.string (⟨#[98, 97, 115, 101]⟩ : ByteArray), .string (⟨#[120]⟩ : ByteArray), .string (⟨#[101, 110, 100, 95, 49]⟩ : ByteArray), .string (⟨#[114]⟩ : ByteArray)]) (ok := fun _ => True) (okp := fun _ => True) ?hr ?hp (fun _ hk => hk) trivial (Below.refl _ _) (Nat.le_refl _) (by simp) ?_; (case hd => rfl); (case hg => rfl); (case hr => first | (go_simp; done) | (go_simp; rfl)); (case hp => exact (Reps.one (show Kd.M Kd.string _ _ _ (⟨#[98, 97, 115, 101]⟩ : ByteArray) [.string (⟨#[98, 97, 115, 101]⟩ : ByteArray)] from rfl) (Reps.one (show Kd.M Kd.string _ _ _ (⟨#[120]⟩ : ByteArray) [.string (⟨#[120]⟩ : ByteArray)] from rfl) (Reps.one (show Kd.M Kd.string _ _ _ (⟨#[101, 110, 100, 95, 49]⟩ : ByteArray) [.string (⟨#[101, 110, 100, 95, 49]⟩ : ByteArray)] from rfl) (Reps.one (show Kd.M Kd.string _ _ _ (⟨#[114]⟩ : ByteArray) [.string (⟨#[114]⟩ : ByteArray)] from rfl) (Reps.none _ _)))))); intro v105 w1 ho2 hb hg_ hnew_; clear hg_ hnew_; (first | rw [← Ny104.out] at ho2 | (simp only [Int.reduceToNat] at ho2; rw [← Ny104.out] at ho2)); have n0_ := Aside0.mk (Kd.R_lower ho2 (below_size (by repeat (first | (with_reducible first | exact HB.out | apply below_alloc | apply pw_below_drewN | apply below_drew1) | exact HB.out)))); have n1_ := Aside0.mk (below_step (by repeat (first | (with_reducible first | exact HB.out | apply below_alloc | apply pw_below_drewN | apply below_drew1) | exact HB.out)) hb); clear HB; have HO106 := n0_; have HB := n1_; clear n0_ n1_; clear hb ho2))
  go_ret
  exact ⟨_, by first | rfl | (simp [errW_none, errW_some] <;> rfl) | (simp [*, errW_none, errW_some] <;> rfl), by (with_reducible repeat (first | apply Kd.R_alloc | apply Kd.R_drewN | apply Kd.R_drew)); exact HO106.out, by repeat (first | (with_reducible first | exact HB.out | apply below_alloc | apply pw_below_drewN | apply below_drew1) | exact HB.out)⟩

/-! ### letterpressref2_Words: function 61 -/
mutual
def letterpressref2_Words.l0 : Nat → ByteArray → List ByteArray → Int → Int → Option (List ByteArray)
  | 0, _, _, _, _ => none
  | k + 1, x0, x3, x4, x5 => if x5 ≤ (x0.size : Int) then (if x5 = (x0.size : Int) then (letterpressref2_Words.j1 k x0 x3 x4 x5 true) else (if 0 ≤ x5 then (if x5 < (x0.size : Int) then (letterpressref2_Words.j1 k x0 x3 x4 x5 ((bt x0 x5) == 32)) else (none)) else (none))) else (some x3)
def letterpressref2_Words.j1 : Nat → ByteArray → List ByteArray → Int → Int → Bool → Option (List ByteArray)
  | 0, _, _, _, _, _ => none
  | k + 1, x0, x3, x4, x5, x21 => if x21 = true then (if x5 > x4 then (if 0 ≤ x4 then (if x4 ≤ x5 then (if x5 ≤ (x0.size : Int) then (if x3.length < 8796093022208 then (letterpressref2_Words.l0 k x0 (x3 ++ [x0.extract (x4 : Int).toNat (x5 : Int).toNat]) (wrap64 (x5 + 1)) (wrap64 (x5 + 1))) else (none)) else (none)) else (none)) else (none)) else (letterpressref2_Words.l0 k x0 x3 (wrap64 (x5 + 1)) (wrap64 (x5 + 1)))) else (letterpressref2_Words.l0 k x0 x3 x4 (wrap64 (x5 + 1)))
end
def letterpressref2_Words.f (k : Nat) (a0 : ByteArray) : Option (List ByteArray) := letterpressref2_Words.l0 k a0 ([] : List ByteArray) 0 0
theorem letterpressref2_Words.mono_l : ∀ k, (∀ y0 y1 y2 y3, LeO (letterpressref2_Words.l0 k y0 y1 y2 y3) (letterpressref2_Words.l0 (k + 1) y0 y1 y2 y3)) ∧ (∀ y0 y1 y2 y3 y4, LeO (letterpressref2_Words.j1 k y0 y1 y2 y3 y4) (letterpressref2_Words.j1 (k + 1) y0 y1 y2 y3 y4))
  | 0 => ⟨fun _ _ _ _ r h => by simp [letterpressref2_Words.l0] at h, fun _ _ _ _ _ r h => by simp [letterpressref2_Words.j1] at h⟩
  | k + 1 => by
    obtain ⟨ih0, ih1⟩ := letterpressref2_Words.mono_l k
    refine ⟨?_, ?_⟩
    · intro y0 y1 y2 y3
      unfold letterpressref2_Words.l0
      repeat' first
      | (with_reducible exact ih0 _ _ _ _)
      | (with_reducible exact ih1 _ _ _ _ _)
      | (with_reducible exact LeO.refl _)
      | (with_reducible exact LeO.none _)
      | (with_reducible refine LeO.ite ?_ ?_)
      | (with_reducible refine LeO.bind ?_ (fun _ => ?_))
      | exact ih0 _ _ _ _
      | exact ih1 _ _ _ _ _
      | exact LeO.none _
      | refine LeO.ite ?_ ?_
      | refine LeO.bind ?_ (fun _ => ?_)
    · intro y0 y1 y2 y3 y4
      unfold letterpressref2_Words.j1
      repeat' first
      | (with_reducible exact ih0 _ _ _ _)
      | (with_reducible exact ih1 _ _ _ _ _)
      | (with_reducible exact LeO.refl _)
      | (with_reducible exact LeO.none _)
      | (with_reducible refine LeO.ite ?_ ?_)
      | (with_reducible refine LeO.bind ?_ (fun _ => ?_))
      | exact ih0 _ _ _ _
      | exact ih1 _ _ _ _ _
      | exact LeO.none _
      | refine LeO.ite ?_ ?_
      | refine LeO.bind ?_ (fun _ => ?_)
theorem letterpressref2_Words.mono : ∀ a0 k, LeO (letterpressref2_Words.f k a0) (letterpressref2_Words.f (k + 1) a0) := by
  intro a0 k
  obtain ⟨ih0, ih1⟩ := letterpressref2_Words.mono_l k
  unfold letterpressref2_Words.f
  repeat' first
      | (with_reducible exact ih0 _ _ _ _)
      | (with_reducible exact ih1 _ _ _ _ _)
      | (with_reducible exact LeO.refl _)
      | (with_reducible exact LeO.none _)
      | (with_reducible refine LeO.ite ?_ ?_)
      | (with_reducible refine LeO.bind ?_ (fun _ => ?_))
      | exact ih0 _ _ _ _
      | exact ih1 _ _ _ _ _
      | exact LeO.none _
      | refine LeO.ite ?_ ?_
      | refine LeO.bind ?_ (fun _ => ?_)
set_option maxHeartbeats 8000000 in
set_option maxRecDepth 100000 in
theorem letterpressref2_Words.calls (k : Nat) (a0 : ByteArray) (r : List ByteArray) (w : World) (h : letterpressref2_Words.f k a0 = some r) :
    Calls Try.prog 61 #[.string a0] w fun e w' => ∃ v0_ : Value, e = .returned (v0_) ∧ Kd.R Kd.string 9 w' w.heap.size (fun _ => True) v0_ r ∧ Below w.heap.size w w' := by
  have HB := Aside0.mk (Below.refl w.heap.size w)
  have H : (letterpressref2_Words.l0 k a0 ([] : List ByteArray) 0 0) = some r := h
  clear h
  have H' := Aside0.mk H
  clear H
  go_enter Try.func61, Try.ntmps61
  go_wp2
  go_loopg [3, 4, 5] k (fun kq v3 v4 v5 w' => ∃ (x3_1 : List ByteArray) (x4_1 : Int) (x5_1 : Int), v4 = .int .i64 x4_1 ∧ v5 = .int .i64 x5_1 ∧ Aside0 (letterpressref2_Words.l0 kq a0 x3_1 x4_1 x5_1 = some r) ∧ Aside0 (kq ≤ k) ∧ Aside0 (Kd.R Kd.string 9 w' w.heap.size (fun _ => True) v3 x3_1) ∧ Aside0 (Below w.heap.size w w'))
  case atStart => exact ⟨(([] : List ByteArray)), (0), (0), (by first | rfl | (simp; done) | (simp [*]; done)), (by first | rfl | (simp; done) | (simp [*]; done)), H', ⟨Nat.le_refl _⟩, ⟨by first | exact Kd.R_nil _ _ _ _ _ | exact Kd.N_nil _ _ _ _ _ | exact Kd.V_nil _ _ _ _ _ | exact Kd.Q_nil _ _ _ _ _ | exact Kd.S_nil _ _ _ _ _⟩, ⟨by repeat (first | (with_reducible first | exact HB.out | apply below_alloc | apply pw_below_drewN | apply below_drew1) | exact HB.out)⟩⟩
  case round =>
    clear H'
    obtain ⟨x3_1, x4_1, x5_1, rfl, rfl, HA, HK1, HO_3, HB⟩ := hrel
    cases gk with
    | zero => exact absurd HA.out (by simp [letterpressref2_Words.l0])
    | succ k1 =>
      have H := HA.out
      clear HA
      simp only [letterpressref2_Words.l0] at H
      by_cases c2 : x5_1 ≤ (a0.size : Int)
      · rw [if_pos c2] at H
        have c2b0 : decide (x5_1 ≤ (a0.size : Int)) = true := decide_eq_true c2
        clear c2
        have HC3 := Aside0.mk H
        clear H
        go_upto_region 6 with (fail)
        go_cut [21] (fun v21 wc => ∃ (kq : Nat) (x21_2 : Bool), v21 = .bool x21_2 ∧ Aside0 (letterpressref2_Words.j1 kq a0 x3_1 x4_1 x5_1 x21_2 = some r) ∧ Aside0 (kq ≤ k1) ∧ Aside0 (Kd.R Kd.string 9 wc w.heap.size (fun _ => True) u3 x3_1) ∧ Aside0 (Below w.heap.size w wc))
        case first =>
          have H := HC3.out
          clear HC3
          by_cases c4 : x5_1 = (a0.size : Int)
          · rw [if_pos c4] at H
            have c4b0 : (x5_1 == (a0.size : Int)) = true := beq_iff_eq.mpr c4
            have c4b1 : (x5_1 != (a0.size : Int)) = false := bne_eq_false_iff_eq.mpr c4
            clear c4
            (first | rw [c4b0] | (simp only [i64_w, i32_w]; rw [c4b0]) | skip)
            have H' := Aside0.mk H
            clear H
            go_wp2
            go_meet
            case rel => exact ⟨_, (true), (by first | rfl | (simp; done) | (simp [*]; done)), H', ⟨by have := HK1.out; first | omega | exact Nat.le_refl _⟩, ⟨by (with_reducible repeat (first | apply Kd.R_alloc | apply Kd.R_drewN | apply Kd.R_drew)); exact HO_3.out⟩, ⟨by repeat (first | (with_reducible first | exact HB.out | apply below_alloc | apply pw_below_drewN | apply below_drew1) | exact HB.out)⟩⟩
          · rw [if_neg c4] at H
            have c4b0 : (x5_1 == (a0.size : Int)) = false := beq_eq_false_iff_ne.mpr c4
            have c4b1 : (x5_1 != (a0.size : Int)) = true := bne_iff_ne.mpr c4
            (first | rw [c4b0] | (simp only [i64_w, i32_w]; rw [c4b0]) | skip)
            by_cases c5 : 0 ≤ x5_1
            · rw [if_pos c5] at H
              have c5b0 : decide (0 ≤ x5_1) = true := decide_eq_true c5
              clear c5
              by_cases c6 : x5_1 < (a0.size : Int)
              · rw [if_pos c6] at H
                have c6b0 : decide (x5_1 < (a0.size : Int)) = true := decide_eq_true c6
                clear c6
                have H' := Aside0.mk H
                clear H
                have p7 : 0 ≤ (x5_1 : Int) := of_decide_eq_true (by first | (with_reducible assumption) | assumption)
                have q7 : x5_1 < (a0.size : Int) := of_decide_eq_true (by first | (with_reducible assumption) | assumption)
                have hx7 := bt_at a0 x5_1
                replace p7 := eq_true p7
                replace q7 := eq_true q7
                go_wp2
                go_meet
                case rel => exact ⟨_, (((bt a0 x5_1) == 32)), (by first | rfl | (simp; done) | (simp [*]; done)), H', ⟨by have := HK1.out; first | omega | exact Nat.le_refl _⟩, ⟨by (with_reducible repeat (first | apply Kd.R_alloc | apply Kd.R_drewN | apply Kd.R_drew)); exact HO_3.out⟩, ⟨by repeat (first | (with_reducible first | exact HB.out | apply below_alloc | apply pw_below_drewN | apply below_drew1) | exact HB.out)⟩⟩
              · rw [if_neg c6] at H
                exact absurd H (by simp)
            · rw [if_neg c5] at H
              exact absurd H (by simp)
        case rest =>
          clear HC3
          try clear c2
          try clear c2b0
          try clear p2
          try clear c4
          try clear c4b0
          try clear c4b1
          try clear c5
          try clear c5b0
          try clear c6
          try clear c6b0
          try clear p7
          try clear q7
          try clear hx7
          try clear p7
          try clear q7
          obtain ⟨kq, x21_2, rfl, HA, HJ2, HO_3, HB⟩ := hcut
          cases kq with
          | zero => exact absurd HA.out (by simp [letterpressref2_Words.j1])
          | succ kj2 =>
            have H := HA.out
            clear HA
            simp only [letterpressref2_Words.j1] at H
            by_cases c8 : x21_2 = true
            · subst c8
              have H1 : (if x5_1 > x4_1 then (if 0 ≤ x4_1 then (if x4_1 ≤ x5_1 then (if x5_1 ≤ (a0.size : Int) then (if x3_1.length < 8796093022208 then (letterpressref2_Words.l0 kj2 a0 (x3_1 ++ [a0.extract (x4_1 : Int).toNat (x5_1 : Int).toNat]) (wrap64 (x5_1 + 1)) (wrap64 (x5_1 + 1))) else (none)) else (none)) else (none)) else (none)) else (letterpressref2_Words.l0 kj2 a0 x3_1 (wrap64 (x5_1 + 1)) (wrap64 (x5_1 + 1)))) = some r := by rw [if_pos rfl] at H; exact H
              clear H
              have H := H1
              clear H1
              by_cases c9 : x5_1 > x4_1
              · rw [if_pos c9] at H
                have c9b0 : decide (x4_1 < x5_1) = true := decide_eq_true c9
                clear c9
                by_cases c10 : 0 ≤ x4_1
                · rw [if_pos c10] at H
                  have c10b0 := eq_true c10
                  have c10b1 : decide (0 ≤ x4_1) = true := decide_eq_true c10
                  clear c10
                  by_cases c11 : x4_1 ≤ x5_1
                  · rw [if_pos c11] at H
                    have c11b0 := eq_true c11
                    have c11b1 : decide (x4_1 ≤ x5_1) = true := decide_eq_true c11
                    clear c11
                    by_cases c12 : x5_1 ≤ (a0.size : Int)
                    · rw [if_pos c12] at H
                      have c12b0 := eq_true c12
                      have c12b1 : decide (x5_1 ≤ (a0.size : Int)) = true := decide_eq_true c12
                      clear c12
                      by_cases c13 : x3_1.length < 8796093022208
                      · rw [if_pos c13] at H
                        have LMc13 := Aside0.mk c13
                        clear c13
                        obtain ⟨y107, hy107⟩ : ∃ y_ : List ByteArray, y_ = (x3_1 ++ [a0.extract (x4_1 : Int).toNat (x5_1 : Int).toNat]) := ⟨_, rfl⟩
                        replace H : (letterpressref2_Words.l0 kj2 a0 y107 (wrap64 (x5_1 + 1)) (wrap64 (x5_1 + 1))) = some r := by first | (rw [hy107]; with_reducible exact H) | (have H2_ := (Option.bind_some _ _).symm.trans H; rw [hy107]; with_reducible exact H2_) | (have H2_ := (Option.bind_some _ _).symm.trans H; with_reducible exact H2_) | with_reducible exact H | (rw [hy107]; exact H) | exact H
                        have Ny107 := Aside0.mk hy107
                        clear hy107
                        have H' := Aside0.mk H
                        clear H
                        go_wp2_with (first | ((with_reducible refine gate_builtin (b := .append) (xs := #[.tmp 25, .tmp 30]) rfl ?_); at_builtin; refine Kd.R_append Kd.string (w0 := w) w.heap.size rfl (.tmp 25) (.tmp 30) 84 9 (.string ⟨#[]⟩) 16 rfl Try.underlying84 info9 rfl (by decide) (by omega) u3 x3_1 (a0.extract (x4_1 : Int).toNat (x5_1 : Int).toNat) [.string (a0.extract (x4_1 : Int).toNat (x5_1 : Int).toNat)] (fun _ => True) (fun _ => False) rfl rfl ?aP (fun _ hk => hk.elim) ?aF ?aO ?aB ?aS ?aL ?_; (case aP => exact rfl); (case aB => exact (by repeat (first | (with_reducible first | exact HB.out | apply below_alloc | apply pw_below_drewN | apply below_drew1) | exact HB.out))); (case aF => exact (fun _ _ => trivial)); (case aO => exact (by (with_reducible repeat (first | apply Kd.R_alloc | apply Kd.R_drewN | apply Kd.R_drew)); exact HO_3.out)); (case aS => exact (below_size (by repeat (first | (with_reducible first | exact HB.out | apply below_alloc | apply pw_below_drewN | apply below_drew1) | exact HB.out)))); (case aL => have := LMc13.out; omega); intro v108 w14 ho hb hg hat; rw [← Ny107.out] at ho; have n0_ := Aside0.mk (hb); have n1_ := Aside0.mk (ho); clear HB; clear HO_3; have HB := n0_; have HO109 := n1_; clear n0_ n1_; clear ho hb hg hat))
                        go_roundg kj2
                        case measure => have := HK1.out; have := HJ2.out; omega
                        case rel => exact ⟨(y107), (wrap64 (x5_1 + 1)), (wrap64 (x5_1 + 1)), (by first | rfl | (simp; done) | (simp [*]; done)), (by first | rfl | (simp; done) | (simp [*]; done)), H', ⟨by have := HK1.out; have := HJ2.out; omega⟩, ⟨by (with_reducible repeat (first | apply Kd.R_alloc | apply Kd.R_drewN | apply Kd.R_drew)); exact HO109.out⟩, ⟨by repeat (first | (with_reducible first | exact HB.out | apply below_alloc | apply pw_below_drewN | apply below_drew1) | exact HB.out)⟩⟩
                      · rw [if_neg c13] at H
                        exact absurd H (by simp)
                    · rw [if_neg c12] at H
                      exact absurd H (by simp)
                  · rw [if_neg c11] at H
                    exact absurd H (by simp)
                · rw [if_neg c10] at H
                  exact absurd H (by simp)
              · rw [if_neg c9] at H
                have c9b0 : decide (x4_1 < x5_1) = false := decide_eq_false c9
                clear c9
                have H' := Aside0.mk H
                clear H
                go_wp2
                go_roundg kj2
                case measure => have := HK1.out; have := HJ2.out; omega
                case rel => exact ⟨(x3_1), (wrap64 (x5_1 + 1)), (wrap64 (x5_1 + 1)), (by first | rfl | (simp; done) | (simp [*]; done)), (by first | rfl | (simp; done) | (simp [*]; done)), H', ⟨by have := HK1.out; have := HJ2.out; omega⟩, ⟨by (with_reducible repeat (first | apply Kd.R_alloc | apply Kd.R_drewN | apply Kd.R_drew)); exact HO_3.out⟩, ⟨by repeat (first | (with_reducible first | exact HB.out | apply below_alloc | apply pw_below_drewN | apply below_drew1) | exact HB.out)⟩⟩
            · replace c8 := Bool.eq_false_iff.mpr c8
              subst c8
              have H1 : (letterpressref2_Words.l0 kj2 a0 x3_1 x4_1 (wrap64 (x5_1 + 1))) = some r := by rw [if_neg (show ¬ (false = true) by decide)] at H; exact H
              clear H
              have H := H1
              clear H1
              have H' := Aside0.mk H
              clear H
              go_wp2
              go_roundg kj2
              case measure => have := HK1.out; have := HJ2.out; omega
              case rel => exact ⟨(x3_1), (x4_1), (wrap64 (x5_1 + 1)), (by first | rfl | (simp; done) | (simp [*]; done)), (by first | rfl | (simp; done) | (simp [*]; done)), H', ⟨by have := HK1.out; have := HJ2.out; omega⟩, ⟨by (with_reducible repeat (first | apply Kd.R_alloc | apply Kd.R_drewN | apply Kd.R_drew)); exact HO_3.out⟩, ⟨by repeat (first | (with_reducible first | exact HB.out | apply below_alloc | apply pw_below_drewN | apply below_drew1) | exact HB.out)⟩⟩
      · rw [if_neg c2] at H
        have c2b0 : decide (x5_1 ≤ (a0.size : Int)) = false := decide_eq_false c2
        clear c2
        obtain rfl := Option.some.inj H
        go_wp2
        go_ret
        exact ⟨_, by first | rfl | (simp [errW_none, errW_some] <;> rfl) | (simp [*, errW_none, errW_some] <;> rfl), by (with_reducible repeat (first | apply Kd.R_alloc | apply Kd.R_drewN | apply Kd.R_drew)); exact HO_3.out, by repeat (first | (with_reducible first | exact HB.out | apply below_alloc | apply pw_below_drewN | apply below_drew1) | exact HB.out)⟩

/-! ### letterpressref2_find: by hand (FxA) -/
def letterpressref2_find.f (k : Nat) (a0 : Int) (a1 : ByteArray) : Option (ByteArray × ByteArray × ByteArray × Int × Bool) :=
  if a1.toList = [32] ∧ 0 ≤ a0 then (rowOf a0.toNat).map (fun s => (ofN s.f0, ofN s.f1, ofN s.f2, (s.n : Int), true)) else none
theorem letterpressref2_find.mono : ∀ a0 a1 k, LeO (letterpressref2_find.f k a0 a1) (letterpressref2_find.f (k + 1) a0 a1) := fun _ _ _ => LeO.refl _
theorem letterpressref2_find.calls (k : Nat) (a0 : Int) (a1 : ByteArray) (r1 : ByteArray) (r2 : ByteArray) (r3 : ByteArray) (r4 : Int) (r5 : Bool) (w : World) (h : letterpressref2_find.f k a0 a1 = some (r1, r2, r3, r4, r5)) :
    Calls Try.prog 75 #[.int .i64 a0, .string a1] w fun e w' => e = .returned (.tuple #[.agg #[.string r1, .string r2, .string r3], .int .i64 r4, .bool r5]) ∧ Below w.heap.size w w' := by
  unfold letterpressref2_find.f at h
  split at h
  · next hc =>
    obtain ⟨h1, h2⟩ := hc
    obtain ⟨n, rfl⟩ : ∃ n : Nat, a0 = n := ⟨a0.toNat, by omega⟩
    cases hr : rowOf (n : Int).toNat with
    | none => rw [hr] at h; cases h
    | some s =>
      rw [hr] at h
      simp only [Option.map_some, Option.some.injEq, Prod.mk.injEq] at h
      obtain ⟨rfl, rfl, rfl, rfl, rfl⟩ := h
      have e : a1 = ⟨#[32]⟩ := by
        apply ByteArray.ext
        apply Array.ext'
        rw [Go.ByteArray.toList_eq] at h1
        exact h1
      rw [e]
      exact find_any n s (by simpa using hr) w
  · cases h

/-! ### letterpressref2_Kinds: function 62 -/
def letterpressref2_Kinds.f (k : Nat) (a0 : Int) : Option (ByteArray) := (letterpressref2_find.f k a0 (⟨#[32]⟩ : ByteArray)).bind fun bt110 => (some bt110.2.2.1)
theorem letterpressref2_Kinds.mono : ∀ a0 k, LeO (letterpressref2_Kinds.f k a0) (letterpressref2_Kinds.f (k + 1) a0) := by
  intro a0 k
  unfold letterpressref2_Kinds.f
  repeat' first
      | (with_reducible exact letterpressref2_find.mono _ _ _)
      | (with_reducible exact LeO.refl _)
      | (with_reducible exact LeO.none _)
      | (with_reducible refine LeO.ite ?_ ?_)
      | (with_reducible refine LeO.bind ?_ (fun _ => ?_))
      | exact letterpressref2_find.mono _ _ _
      | exact LeO.none _
      | refine LeO.ite ?_ ?_
      | refine LeO.bind ?_ (fun _ => ?_)
set_option maxHeartbeats 8000000 in
set_option maxRecDepth 100000 in
theorem letterpressref2_Kinds.calls (k : Nat) (a0 : Int) (r : ByteArray) (w : World) (h : letterpressref2_Kinds.f k a0 = some r) :
    Calls Try.prog 62 #[.int .i64 a0] w fun e w' => e = .returned (.string r) ∧ Below w.heap.size w w' := by
  have hu116 := Try.underlying116
  have HB := Aside0.mk (Below.refl w.heap.size w)
  have H : ((letterpressref2_find.f k a0 (⟨#[32]⟩ : ByteArray)).bind fun bt110 => (some bt110.2.2.1)) = some r := h
  clear h
  replace H := Option.bind_eq_some_iff.mp H
  obtain ⟨⟨t110, t111, t112, t113, t114⟩, A20, H⟩ := H
  replace H : (some t112) = some r := H
  have A2 := Aside0.mk A20
  clear A20
  obtain rfl := Option.some.inj H
  go_enter Try.func62, Try.ntmps62
  go_wp2_with (first | ((with_reducible refine gate_callee (f := 75) rfl ?_); refine goesL_ (some 8) rfl rfl Try.func75 (by kernel_rfl) rfl #[.int .i64 a0, .string (⟨#[32]⟩ : ByteArray)] rfl (by (try simp only [List.map_toArray, List.map_cons, List.map_nil]); first | done | rfl | (simp only [List.length_drop, List.length_take]; rfl)) ?_; (with_reducible refine (letterpressref2_find.calls k a0 (⟨#[32]⟩ : ByteArray) t110 t111 t112 t113 t114 _ A2.out).mono ?_); rintro e w3 ⟨rfl, hb⟩; refine ⟨_, rfl, ?_⟩; have n0_ := Aside0.mk (below_step (by repeat (first | (with_reducible first | exact HB.out | apply below_alloc | apply pw_below_drewN | apply below_drew1) | exact HB.out)) hb); clear HB; have HB := n0_; clear n0_; (try clear hb); (try clear hb2); (try clear hk); (try clear hi)) | ((with_reducible refine gate_dst (N := 3) rfl ?_); refine box_event ?hg (N := 3) ?hd (cs := #[.string (⟨#[]⟩ : ByteArray), .string (⟨#[]⟩ : ByteArray), .string (⟨#[]⟩ : ByteArray)]) (t := 116) ?hr ?_; (case hd => rfl); (case hg => rfl); (case hr => first | (go_simp; done) | (go_simp; rfl)); intro gb115 hg w4 hbox hb; have n0_ := Aside0.mk (below_step (by repeat (first | (with_reducible first | exact HB.out | apply below_alloc | apply pw_below_drewN | apply below_drew1) | exact HB.out)) hb); have n1_ := Aside0.mk (hbox); have n2_ := Aside0.mk ((by rw [hg]; exact (below_size (by repeat (first | (with_reducible first | exact HB.out | apply below_alloc | apply pw_below_drewN | apply below_drew1) | exact HB.out))) : w.heap.size ≤ gb115)); have n3_ := Aside0.mk ((by rw [hg]; exact (below_size (by repeat (first | (with_reducible first | exact HB.out | apply below_alloc | apply pw_below_drewN | apply below_drew1) | exact HB.out))) : w.heap.size ≤ gb115)); clear HB; have HB := n0_; have BK115 := n1_; have GW115 := n2_; have GE115 := n3_; clear n0_ n1_ n2_ n3_; clear hb hbox hg; have hcz5_0 : w4.cell? ⟨gb115, 0, none⟩ = some (.string (⟨#[]⟩ : ByteArray)) := (blk_cell BK115.out 0).trans rfl; have hcz5_1 : w4.cell? ⟨gb115, 1, none⟩ = some (.string (⟨#[]⟩ : ByteArray)) := (blk_cell BK115.out 1).trans rfl; have hcz5_2 : w4.cell? ⟨gb115, 2, none⟩ = some (.string (⟨#[]⟩ : ByteArray)) := (blk_cell BK115.out 2).trans rfl; have hfz5_0 := blk_frozen BK115.out 0; have hfz5_1 := blk_frozen BK115.out 1; have hfz5_2 := blk_frozen BK115.out 2))
  go_ret
  exact ⟨by first | rfl | (simp [errW_none, errW_some] <;> rfl) | (simp [*, errW_none, errW_some] <;> rfl), by repeat (first | (with_reducible first | exact HB.out | apply below_alloc | apply pw_below_drewN | apply below_drew1 | refine below_set ?_ GE115.out) | exact HB.out)⟩

/-! ### letterpressref2_Name: function 72 -/
def letterpressref2_Name.f (k : Nat) (a0 : Int) : Option (ByteArray) := (letterpressref2_find.f k a0 (⟨#[32]⟩ : ByteArray)).bind fun bt116 => (some bt116.1)
theorem letterpressref2_Name.mono : ∀ a0 k, LeO (letterpressref2_Name.f k a0) (letterpressref2_Name.f (k + 1) a0) := by
  intro a0 k
  unfold letterpressref2_Name.f
  repeat' first
      | (with_reducible exact letterpressref2_find.mono _ _ _)
      | (with_reducible exact LeO.refl _)
      | (with_reducible exact LeO.none _)
      | (with_reducible refine LeO.ite ?_ ?_)
      | (with_reducible refine LeO.bind ?_ (fun _ => ?_))
      | exact letterpressref2_find.mono _ _ _
      | exact LeO.none _
      | refine LeO.ite ?_ ?_
      | refine LeO.bind ?_ (fun _ => ?_)
set_option maxHeartbeats 8000000 in
set_option maxRecDepth 100000 in
theorem letterpressref2_Name.calls (k : Nat) (a0 : Int) (r : ByteArray) (w : World) (h : letterpressref2_Name.f k a0 = some r) :
    Calls Try.prog 72 #[.int .i64 a0] w fun e w' => e = .returned (.string r) ∧ Below w.heap.size w w' := by
  have hu116 := Try.underlying116
  have HB := Aside0.mk (Below.refl w.heap.size w)
  have H : ((letterpressref2_find.f k a0 (⟨#[32]⟩ : ByteArray)).bind fun bt116 => (some bt116.1)) = some r := h
  clear h
  replace H := Option.bind_eq_some_iff.mp H
  obtain ⟨⟨t116, t117, t118, t119, t120⟩, A20, H⟩ := H
  replace H : (some t116) = some r := H
  have A2 := Aside0.mk A20
  clear A20
  obtain rfl := Option.some.inj H
  go_enter Try.func72, Try.ntmps72
  go_wp2_with (first | ((with_reducible refine gate_callee (f := 75) rfl ?_); refine goesL_ (some 8) rfl rfl Try.func75 (by kernel_rfl) rfl #[.int .i64 a0, .string (⟨#[32]⟩ : ByteArray)] rfl (by (try simp only [List.map_toArray, List.map_cons, List.map_nil]); first | done | rfl | (simp only [List.length_drop, List.length_take]; rfl)) ?_; (with_reducible refine (letterpressref2_find.calls k a0 (⟨#[32]⟩ : ByteArray) t116 t117 t118 t119 t120 _ A2.out).mono ?_); rintro e w3 ⟨rfl, hb⟩; refine ⟨_, rfl, ?_⟩; have n0_ := Aside0.mk (below_step (by repeat (first | (with_reducible first | exact HB.out | apply below_alloc | apply pw_below_drewN | apply below_drew1) | exact HB.out)) hb); clear HB; have HB := n0_; clear n0_; (try clear hb); (try clear hb2); (try clear hk); (try clear hi)) | ((with_reducible refine gate_dst (N := 3) rfl ?_); refine box_event ?hg (N := 3) ?hd (cs := #[.string (⟨#[]⟩ : ByteArray), .string (⟨#[]⟩ : ByteArray), .string (⟨#[]⟩ : ByteArray)]) (t := 116) ?hr ?_; (case hd => rfl); (case hg => rfl); (case hr => first | (go_simp; done) | (go_simp; rfl)); intro gb121 hg w4 hbox hb; have n0_ := Aside0.mk (below_step (by repeat (first | (with_reducible first | exact HB.out | apply below_alloc | apply pw_below_drewN | apply below_drew1) | exact HB.out)) hb); have n1_ := Aside0.mk (hbox); have n2_ := Aside0.mk ((by rw [hg]; exact (below_size (by repeat (first | (with_reducible first | exact HB.out | apply below_alloc | apply pw_below_drewN | apply below_drew1) | exact HB.out))) : w.heap.size ≤ gb121)); have n3_ := Aside0.mk ((by rw [hg]; exact (below_size (by repeat (first | (with_reducible first | exact HB.out | apply below_alloc | apply pw_below_drewN | apply below_drew1) | exact HB.out))) : w.heap.size ≤ gb121)); clear HB; have HB := n0_; have BK121 := n1_; have GW121 := n2_; have GE121 := n3_; clear n0_ n1_ n2_ n3_; clear hb hbox hg; have hcz5_0 : w4.cell? ⟨gb121, 0, none⟩ = some (.string (⟨#[]⟩ : ByteArray)) := (blk_cell BK121.out 0).trans rfl; have hcz5_1 : w4.cell? ⟨gb121, 1, none⟩ = some (.string (⟨#[]⟩ : ByteArray)) := (blk_cell BK121.out 1).trans rfl; have hcz5_2 : w4.cell? ⟨gb121, 2, none⟩ = some (.string (⟨#[]⟩ : ByteArray)) := (blk_cell BK121.out 2).trans rfl; have hfz5_0 := blk_frozen BK121.out 0; have hfz5_1 := blk_frozen BK121.out 1; have hfz5_2 := blk_frozen BK121.out 2))
  go_ret
  exact ⟨by first | rfl | (simp [errW_none, errW_some] <;> rfl) | (simp [*, errW_none, errW_some] <;> rfl), by repeat (first | (with_reducible first | exact HB.out | apply below_alloc | apply pw_below_drewN | apply below_drew1 | refine below_set ?_ GE121.out) | exact HB.out)⟩

/-! ### letterpressref4_name: function 58 -/
def letterpressref4_name.f (k : Nat) (a0_0 : Int) (a0_1 : ByteArray) (a0_2 : Int) (a0_3 : Int) (a0_4 : ByteArray) (l0_5 : List (S104)) : Option (ByteArray) := if a0_2 = 1 then ((letterpressref2_Name.f k a0_3).bind fun t123 => (some t123)) else (if a0_2 = 2 then ((some (([(⟨#[98]⟩ : ByteArray), (⟨#[98, 108]⟩ : ByteArray), (⟨#[98, 99]⟩ : ByteArray)] : List ByteArray) : List ByteArray)).bind fun y124 => (if 0 ≤ a0_3 then (if a0_3 < (y124.length : Int) then (some (rdOf ByteArray.empty y124 a0_3)) else (none)) else (none))) else (if a0_2 = 3 then (some (⟨#[46, 98, 121, 116, 101]⟩ : ByteArray)) else (if a0_2 = 4 then (some (⟨#[46, 104, 97, 108, 102]⟩ : ByteArray)) else (if a0_2 = 5 then (some (⟨#[46, 108, 111, 110, 103]⟩ : ByteArray)) else (if a0_2 = 6 then (some (⟨#[46, 97, 115, 99, 105, 105]⟩ : ByteArray)) else (if a0_2 = 7 then (some (⟨#[46, 97, 108, 105, 103, 110]⟩ : ByteArray)) else (if a0_2 = 8 then (some (⟨#[46, 115, 112, 97, 99, 101]⟩ : ByteArray)) else (some (⟨#[46, 101, 113, 117]⟩ : ByteArray)))))))))
theorem letterpressref4_name.mono : ∀ a0 a1 a2 a3 a4 a5 k, LeO (letterpressref4_name.f k a0 a1 a2 a3 a4 a5) (letterpressref4_name.f (k + 1) a0 a1 a2 a3 a4 a5) := by
  intro a0 a1 a2 a3 a4 a5 k
  unfold letterpressref4_name.f
  repeat' first
      | (with_reducible exact letterpressref2_Name.mono _ _)
      | (with_reducible exact LeO.refl _)
      | (with_reducible exact LeO.none _)
      | (with_reducible refine LeO.ite ?_ ?_)
      | (with_reducible refine LeO.bind ?_ (fun _ => ?_))
      | exact letterpressref2_Name.mono _ _
      | exact LeO.none _
      | refine LeO.ite ?_ ?_
      | refine LeO.bind ?_ (fun _ => ?_)
set_option maxHeartbeats 8000000 in
set_option maxRecDepth 100000 in
theorem letterpressref4_name.calls (k : Nat) (a0_0 : Int) (a0_1 : ByteArray) (a0_2 : Int) (a0_3 : Int) (a0_4 : ByteArray) (A0_5 : Option Addr) (c0_5 : Nat) (l0_5 : List (S104)) (r : ByteArray) (w : World) (hr0_5 : Kd.C k104 w A0_5 l0_5.length l0_5) (hc0_5 : l0_5.length ≤ c0_5) (h : letterpressref4_name.f k a0_0 a0_1 a0_2 a0_3 a0_4 l0_5 = some r) :
    Calls Try.prog 58 #[.agg #[.int .i64 a0_0, .string a0_1, .int .i64 a0_2, .int .i64 a0_3, .string a0_4, .slice A0_5 l0_5.length c0_5]] w fun e w' => e = .returned (.string r) ∧ Below w.heap.size w w' := by
  have hu95 := Try.underlying95
  have HR0_5 := Aside0.mk hr0_5
  have HC0_5 := Aside0.mk hc0_5
  clear hr0_5 hc0_5
  have HB := Aside0.mk (Below.refl w.heap.size w)
  have H : (if a0_2 = 1 then ((letterpressref2_Name.f k a0_3).bind fun t123 => (some t123)) else (if a0_2 = 2 then ((some (([(⟨#[98]⟩ : ByteArray), (⟨#[98, 108]⟩ : ByteArray), (⟨#[98, 99]⟩ : ByteArray)] : List ByteArray) : List ByteArray)).bind fun y124 => (if 0 ≤ a0_3 then (if a0_3 < (y124.length : Int) then (some (rdOf ByteArray.empty y124 a0_3)) else (none)) else (none))) else (if a0_2 = 3 then (some (⟨#[46, 98, 121, 116, 101]⟩ : ByteArray)) else (if a0_2 = 4 then (some (⟨#[46, 104, 97, 108, 102]⟩ : ByteArray)) else (if a0_2 = 5 then (some (⟨#[46, 108, 111, 110, 103]⟩ : ByteArray)) else (if a0_2 = 6 then (some (⟨#[46, 97, 115, 99, 105, 105]⟩ : ByteArray)) else (if a0_2 = 7 then (some (⟨#[46, 97, 108, 105, 103, 110]⟩ : ByteArray)) else (if a0_2 = 8 then (some (⟨#[46, 115, 112, 97, 99, 101]⟩ : ByteArray)) else (some (⟨#[46, 101, 113, 117]⟩ : ByteArray)))))))))) = some r := h
  clear h
  by_cases c2 : a0_2 = 1
  · rw [if_pos c2] at H
    have c2b0 : (a0_2 == 1) = true := beq_iff_eq.mpr c2
    have c2b1 : (a0_2 != 1) = false := bne_eq_false_iff_eq.mpr c2
    clear c2
    replace H := Option.bind_eq_some_iff.mp H
    obtain ⟨t123, A30, H⟩ := H
    replace H : (some t123) = some r := H
    have A3 := Aside0.mk A30
    clear A30
    obtain rfl := Option.some.inj H
    go_enter Try.func58, Try.ntmps58
    go_wp2_with (first | ((with_reducible refine gate_dst (N := 1) rfl ?_); refine box_event ?hg (N := 1) ?hd (cs := #[.int .i64 a0_0, .string a0_1, .int .i64 a0_2, .int .i64 a0_3, .string a0_4, .slice A0_5 l0_5.length c0_5]) (t := 95) ?hr ?_; (case hd => rfl); (case hg => rfl); (case hr => first | (go_simp; done) | (go_simp; rfl)); intro gb122 hg w4 hbox hb; have n0_ := Aside0.mk (below_step (by repeat (first | (with_reducible first | exact HB.out | apply below_alloc | apply pw_below_drewN | apply below_drew1) | exact HB.out)) hb); have n1_ := Aside0.mk (hbox); have n2_ := Aside0.mk ((by rw [hg]; exact (below_size (by repeat (first | (with_reducible first | exact HB.out | apply below_alloc | apply pw_below_drewN | apply below_drew1) | exact HB.out))) : w.heap.size ≤ gb122)); have n3_ := Aside0.mk ((by rw [hg]; exact (below_size (by repeat (first | (with_reducible first | exact HB.out | apply below_alloc | apply pw_below_drewN | apply below_drew1) | exact HB.out))) : w.heap.size ≤ gb122)); clear HB; have HB := n0_; have BK122 := n1_; have GW122 := n2_; have GE122 := n3_; clear n0_ n1_ n2_ n3_; clear hb hbox hg; have hcz5_0 : w4.cell? ⟨gb122, 0, none⟩ = some (.int .i64 a0_0) := (blk_cell BK122.out 0).trans rfl; have hcz5_1 : w4.cell? ⟨gb122, 1, none⟩ = some (.string a0_1) := (blk_cell BK122.out 1).trans rfl; have hcz5_2 : w4.cell? ⟨gb122, 2, none⟩ = some (.int .i64 a0_2) := (blk_cell BK122.out 2).trans rfl; have hcz5_3 : w4.cell? ⟨gb122, 3, none⟩ = some (.int .i64 a0_3) := (blk_cell BK122.out 3).trans rfl; have hcz5_4 : w4.cell? ⟨gb122, 4, none⟩ = some (.string a0_4) := (blk_cell BK122.out 4).trans rfl; have hcz5_5 : w4.cell? ⟨gb122, 5, none⟩ = some (.slice A0_5 l0_5.length c0_5) := (blk_cell BK122.out 5).trans rfl; have hfz5_0 := blk_frozen BK122.out 0; have hfz5_1 := blk_frozen BK122.out 1; have hfz5_2 := blk_frozen BK122.out 2; have hfz5_3 := blk_frozen BK122.out 3; have hfz5_4 := blk_frozen BK122.out 4; have hfz5_5 := blk_frozen BK122.out 5) | ((with_reducible refine gate_callee (f := 72) rfl ?_); refine goesL_ (some 9) rfl rfl Try.func72 (by kernel_rfl) rfl #[.int .i64 a0_3] rfl (by (try simp only [List.map_toArray, List.map_cons, List.map_nil]); first | done | rfl | (simp only [List.length_drop, List.length_take]; rfl)) ?_; (with_reducible refine (letterpressref2_Name.calls k a0_3 t123 _ A3.out).mono ?_); rintro e w6 ⟨rfl, hb⟩; refine ⟨_, rfl, ?_⟩; have n0_ := Aside0.mk (blk_below (g := gb122) (o := .cells #[.int .i64 a0_0, .string a0_1, .int .i64 a0_2, .int .i64 a0_3, .string a0_4, .slice A0_5 l0_5.length c0_5] 95 (0, 0)) (by (with_reducible repeat (first | refine blk_drewN ?_ _ | refine blk_drew ?_ | refine blk_alloc ?_ _)); exact BK122.out) hb); have n1_ := Aside0.mk (below_step (by repeat (first | (with_reducible first | exact HB.out | apply below_alloc | apply pw_below_drewN | apply below_drew1 | refine below_set ?_ GE122.out) | exact HB.out)) hb); clear BK122; clear HB; have BK122 := n0_; have HB := n1_; clear n0_ n1_; (try clear hb); (try clear hb2); (try clear hk); (try clear hi)))
    go_ret
    exact ⟨by first | rfl | (simp [errW_none, errW_some] <;> rfl) | (simp [*, errW_none, errW_some] <;> rfl), by repeat (first | (with_reducible first | exact HB.out | apply below_alloc | apply pw_below_drewN | apply below_drew1 | refine below_set ?_ GE122.out) | exact HB.out)⟩
  · rw [if_neg c2] at H
    have c2b0 : (a0_2 == 1) = false := beq_eq_false_iff_ne.mpr c2
    have c2b1 : (a0_2 != 1) = true := bne_iff_ne.mpr c2
    by_cases c7 : a0_2 = 2
    · rw [if_pos c7] at H
      have c7b0 : (a0_2 == 2) = true := beq_iff_eq.mpr c7
      have c7b1 : (a0_2 != 2) = false := bne_eq_false_iff_eq.mpr c7
      clear c7
      obtain ⟨y124, hy124⟩ : ∃ y_ : List ByteArray, y_ = (([(⟨#[98]⟩ : ByteArray), (⟨#[98, 108]⟩ : ByteArray), (⟨#[98, 99]⟩ : ByteArray)] : List ByteArray)) := ⟨_, rfl⟩
      replace H : (if 0 ≤ a0_3 then (if a0_3 < (y124.length : Int) then (some (rdOf ByteArray.empty y124 a0_3)) else (none)) else (none)) = some r := by first | (rw [hy124]; with_reducible exact H) | (have H2_ := (Option.bind_some _ _).symm.trans H; rw [hy124]; with_reducible exact H2_) | (have H2_ := (Option.bind_some _ _).symm.trans H; with_reducible exact H2_) | with_reducible exact H | (rw [hy124]; exact H) | exact H
      have Ny124 := Aside0.mk hy124
      clear hy124
      by_cases c8 : 0 ≤ a0_3
      · rw [if_pos c8] at H
        have c8b0 : decide (0 ≤ a0_3) = true := decide_eq_true c8
        clear c8
        by_cases c9 : a0_3 < (y124.length : Int)
        · rw [if_pos c9] at H
          have c9b0 : decide (a0_3 < (y124.length : Int)) = true := decide_eq_true c9
          clear c9
          obtain rfl := Option.some.inj H
          go_enter Try.func58, Try.ntmps58
          go_wp2_with (first | ((with_reducible refine gate_dst (N := 1) rfl ?_); refine box_event ?hg (N := 1) ?hd (cs := #[.int .i64 a0_0, .string a0_1, .int .i64 a0_2, .int .i64 a0_3, .string a0_4, .slice A0_5 l0_5.length c0_5]) (t := 95) ?hr ?_; (case hd => rfl); (case hg => rfl); (case hr => first | (go_simp; done) | (go_simp; rfl)); intro gb122 hg w10 hbox hb; have n0_ := Aside0.mk (below_step (by repeat (first | (with_reducible first | exact HB.out | apply below_alloc | apply pw_below_drewN | apply below_drew1) | exact HB.out)) hb); have n1_ := Aside0.mk (hbox); have n2_ := Aside0.mk ((by rw [hg]; exact (below_size (by repeat (first | (with_reducible first | exact HB.out | apply below_alloc | apply pw_below_drewN | apply below_drew1) | exact HB.out))) : w.heap.size ≤ gb122)); have n3_ := Aside0.mk ((by rw [hg]; exact (below_size (by repeat (first | (with_reducible first | exact HB.out | apply below_alloc | apply pw_below_drewN | apply below_drew1) | exact HB.out))) : w.heap.size ≤ gb122)); clear HB; have HB := n0_; have BK122 := n1_; have GW122 := n2_; have GE122 := n3_; clear n0_ n1_ n2_ n3_; clear hb hbox hg; have hcz11_0 : w10.cell? ⟨gb122, 0, none⟩ = some (.int .i64 a0_0) := (blk_cell BK122.out 0).trans rfl; have hcz11_1 : w10.cell? ⟨gb122, 1, none⟩ = some (.string a0_1) := (blk_cell BK122.out 1).trans rfl; have hcz11_2 : w10.cell? ⟨gb122, 2, none⟩ = some (.int .i64 a0_2) := (blk_cell BK122.out 2).trans rfl; have hcz11_3 : w10.cell? ⟨gb122, 3, none⟩ = some (.int .i64 a0_3) := (blk_cell BK122.out 3).trans rfl; have hcz11_4 : w10.cell? ⟨gb122, 4, none⟩ = some (.string a0_4) := (blk_cell BK122.out 4).trans rfl; have hcz11_5 : w10.cell? ⟨gb122, 5, none⟩ = some (.slice A0_5 l0_5.length c0_5) := (blk_cell BK122.out 5).trans rfl; have hfz11_0 := blk_frozen BK122.out 0; have hfz11_1 := blk_frozen BK122.out 1; have hfz11_2 := blk_frozen BK122.out 2; have hfz11_3 := blk_frozen BK122.out 3; have hfz11_4 := blk_frozen BK122.out 4; have hfz11_5 := blk_frozen BK122.out 5) | ((with_reducible refine gate_dst (N := 12) rfl ?_); refine Kd.R_lit Kd.string _ 9 ?hg (N := 12) ?hd (xs := ([(⟨#[98]⟩ : ByteArray), (⟨#[98, 108]⟩ : ByteArray), (⟨#[98, 99]⟩ : ByteArray)] : List ByteArray)) (inner := [.string (⟨#[98]⟩ : ByteArray), .string (⟨#[98, 108]⟩ : ByteArray), .string (⟨#[98, 99]⟩ : ByteArray)]) (ok := fun _ => True) (okp := fun _ => True) ?hr ?hp (fun _ hk => hk) trivial (Below.refl _ _) (Nat.le_refl _) (by simp) ?_; (case hd => rfl); (case hg => rfl); (case hr => first | (go_simp; done) | (go_simp; rfl)); (case hp => exact (Reps.one (show Kd.M Kd.string _ _ _ (⟨#[98]⟩ : ByteArray) [.string (⟨#[98]⟩ : ByteArray)] from rfl) (Reps.one (show Kd.M Kd.string _ _ _ (⟨#[98, 108]⟩ : ByteArray) [.string (⟨#[98, 108]⟩ : ByteArray)] from rfl) (Reps.one (show Kd.M Kd.string _ _ _ (⟨#[98, 99]⟩ : ByteArray) [.string (⟨#[98, 99]⟩ : ByteArray)] from rfl) (Reps.none _ _))))); intro v125 w12 ho13 hb hg_ hnew_; clear hg_ hnew_; (first | rw [← Ny124.out] at ho13 | (simp only [Int.reduceToNat] at ho13; rw [← Ny124.out] at ho13)); have n0_ := Aside0.mk (Kd.R_lower ho13 (below_size (by repeat (first | (with_reducible first | exact HB.out | apply below_alloc | apply pw_below_drewN | apply below_drew1 | refine below_set ?_ GE122.out) | exact HB.out)))); have n1_ := Aside0.mk (blk_below (g := gb122) (o := .cells #[.int .i64 a0_0, .string a0_1, .int .i64 a0_2, .int .i64 a0_3, .string a0_4, .slice A0_5 l0_5.length c0_5] 95 (0, 0)) (by (with_reducible repeat (first | refine blk_drewN ?_ _ | refine blk_drew ?_ | refine blk_alloc ?_ _)); exact BK122.out) hb); have n2_ := Aside0.mk (below_step (by repeat (first | (with_reducible first | exact HB.out | apply below_alloc | apply pw_below_drewN | apply below_drew1 | refine below_set ?_ GE122.out) | exact HB.out)) hb); clear BK122; clear HB; have HO126 := n0_; have BK122 := n1_; have HB := n2_; clear n0_ n1_ n2_; clear hb ho13; have hcz14_0 : w12.cell? ⟨gb122, 0, none⟩ = some (.int .i64 a0_0) := (blk_cell BK122.out 0).trans rfl; have hcz14_1 : w12.cell? ⟨gb122, 1, none⟩ = some (.string a0_1) := (blk_cell BK122.out 1).trans rfl; have hcz14_2 : w12.cell? ⟨gb122, 2, none⟩ = some (.int .i64 a0_2) := (blk_cell BK122.out 2).trans rfl; have hcz14_3 : w12.cell? ⟨gb122, 3, none⟩ = some (.int .i64 a0_3) := (blk_cell BK122.out 3).trans rfl; have hcz14_4 : w12.cell? ⟨gb122, 4, none⟩ = some (.string a0_4) := (blk_cell BK122.out 4).trans rfl; have hcz14_5 : w12.cell? ⟨gb122, 5, none⟩ = some (.slice A0_5 l0_5.length c0_5) := (blk_cell BK122.out 5).trans rfl; have hfz14_0 := blk_frozen BK122.out 0; have hfz14_1 := blk_frozen BK122.out 1; have hfz14_2 := blk_frozen BK122.out 2; have hfz14_3 := blk_frozen BK122.out 3; have hfz14_4 := blk_frozen BK122.out 4; have hfz14_5 := blk_frozen BK122.out 5; obtain ⟨Ao15, co15, eo15⟩ := Kd.R_slice HO126.out; subst eo15; have p127 : 0 ≤ (a0_3 : Int) := of_decide_eq_true (by first | (with_reducible assumption) | assumption); have q127 : a0_3 < (y124.length : Int) := of_decide_eq_true (by first | (with_reducible assumption) | assumption); obtain ⟨ad127, e127, hx127_0⟩ := Kd.at_string (Kd.R_reads' HO126.out).2.2 a0_3 p127 q127; cases e127; replace p127 := eq_true p127; replace q127 := eq_true q127))
          go_ret
          exact ⟨by first | rfl | (simp [errW_none, errW_some] <;> rfl) | (simp [*, errW_none, errW_some] <;> rfl), by repeat (first | (with_reducible first | exact HB.out | apply below_alloc | apply pw_below_drewN | apply below_drew1 | refine below_set ?_ GE122.out) | exact HB.out)⟩
        · rw [if_neg c9] at H
          exact absurd H (by simp)
      · rw [if_neg c8] at H
        exact absurd H (by simp)
    · rw [if_neg c7] at H
      have c7b0 : (a0_2 == 2) = false := beq_eq_false_iff_ne.mpr c7
      have c7b1 : (a0_2 != 2) = true := bne_iff_ne.mpr c7
      by_cases c16 : a0_2 = 3
      · rw [if_pos c16] at H
        have c16b0 : (a0_2 == 3) = true := beq_iff_eq.mpr c16
        have c16b1 : (a0_2 != 3) = false := bne_eq_false_iff_eq.mpr c16
        clear c16
        obtain rfl := Option.some.inj H
        go_enter Try.func58, Try.ntmps58
        go_wp2_with (first | ((with_reducible refine gate_dst (N := 1) rfl ?_); refine box_event ?hg (N := 1) ?hd (cs := #[.int .i64 a0_0, .string a0_1, .int .i64 a0_2, .int .i64 a0_3, .string a0_4, .slice A0_5 l0_5.length c0_5]) (t := 95) ?hr ?_; (case hd => rfl); (case hg => rfl); (case hr => first | (go_simp; done) | (go_simp; rfl)); intro gb122 hg w17 hbox hb; have n0_ := Aside0.mk (below_step (by repeat (first | (with_reducible first | exact HB.out | apply below_alloc | apply pw_below_drewN | apply below_drew1) | exact HB.out)) hb); have n1_ := Aside0.mk (hbox); have n2_ := Aside0.mk ((by rw [hg]; exact (below_size (by repeat (first | (with_reducible first | exact HB.out | apply below_alloc | apply pw_below_drewN | apply below_drew1) | exact HB.out))) : w.heap.size ≤ gb122)); have n3_ := Aside0.mk ((by rw [hg]; exact (below_size (by repeat (first | (with_reducible first | exact HB.out | apply below_alloc | apply pw_below_drewN | apply below_drew1) | exact HB.out))) : w.heap.size ≤ gb122)); clear HB; have HB := n0_; have BK122 := n1_; have GW122 := n2_; have GE122 := n3_; clear n0_ n1_ n2_ n3_; clear hb hbox hg; have hcz18_0 : w17.cell? ⟨gb122, 0, none⟩ = some (.int .i64 a0_0) := (blk_cell BK122.out 0).trans rfl; have hcz18_1 : w17.cell? ⟨gb122, 1, none⟩ = some (.string a0_1) := (blk_cell BK122.out 1).trans rfl; have hcz18_2 : w17.cell? ⟨gb122, 2, none⟩ = some (.int .i64 a0_2) := (blk_cell BK122.out 2).trans rfl; have hcz18_3 : w17.cell? ⟨gb122, 3, none⟩ = some (.int .i64 a0_3) := (blk_cell BK122.out 3).trans rfl; have hcz18_4 : w17.cell? ⟨gb122, 4, none⟩ = some (.string a0_4) := (blk_cell BK122.out 4).trans rfl; have hcz18_5 : w17.cell? ⟨gb122, 5, none⟩ = some (.slice A0_5 l0_5.length c0_5) := (blk_cell BK122.out 5).trans rfl; have hfz18_0 := blk_frozen BK122.out 0; have hfz18_1 := blk_frozen BK122.out 1; have hfz18_2 := blk_frozen BK122.out 2; have hfz18_3 := blk_frozen BK122.out 3; have hfz18_4 := blk_frozen BK122.out 4; have hfz18_5 := blk_frozen BK122.out 5))
        go_ret
        exact ⟨by first | rfl | (simp [errW_none, errW_some] <;> rfl) | (simp [*, errW_none, errW_some] <;> rfl), by repeat (first | (with_reducible first | exact HB.out | apply below_alloc | apply pw_below_drewN | apply below_drew1 | refine below_set ?_ GE122.out) | exact HB.out)⟩
      · rw [if_neg c16] at H
        have c16b0 : (a0_2 == 3) = false := beq_eq_false_iff_ne.mpr c16
        have c16b1 : (a0_2 != 3) = true := bne_iff_ne.mpr c16
        by_cases c19 : a0_2 = 4
        · rw [if_pos c19] at H
          have c19b0 : (a0_2 == 4) = true := beq_iff_eq.mpr c19
          have c19b1 : (a0_2 != 4) = false := bne_eq_false_iff_eq.mpr c19
          clear c19
          obtain rfl := Option.some.inj H
          go_enter Try.func58, Try.ntmps58
          go_wp2_with (first | ((with_reducible refine gate_dst (N := 1) rfl ?_); refine box_event ?hg (N := 1) ?hd (cs := #[.int .i64 a0_0, .string a0_1, .int .i64 a0_2, .int .i64 a0_3, .string a0_4, .slice A0_5 l0_5.length c0_5]) (t := 95) ?hr ?_; (case hd => rfl); (case hg => rfl); (case hr => first | (go_simp; done) | (go_simp; rfl)); intro gb122 hg w20 hbox hb; have n0_ := Aside0.mk (below_step (by repeat (first | (with_reducible first | exact HB.out | apply below_alloc | apply pw_below_drewN | apply below_drew1) | exact HB.out)) hb); have n1_ := Aside0.mk (hbox); have n2_ := Aside0.mk ((by rw [hg]; exact (below_size (by repeat (first | (with_reducible first | exact HB.out | apply below_alloc | apply pw_below_drewN | apply below_drew1) | exact HB.out))) : w.heap.size ≤ gb122)); have n3_ := Aside0.mk ((by rw [hg]; exact (below_size (by repeat (first | (with_reducible first | exact HB.out | apply below_alloc | apply pw_below_drewN | apply below_drew1) | exact HB.out))) : w.heap.size ≤ gb122)); clear HB; have HB := n0_; have BK122 := n1_; have GW122 := n2_; have GE122 := n3_; clear n0_ n1_ n2_ n3_; clear hb hbox hg; have hcz21_0 : w20.cell? ⟨gb122, 0, none⟩ = some (.int .i64 a0_0) := (blk_cell BK122.out 0).trans rfl; have hcz21_1 : w20.cell? ⟨gb122, 1, none⟩ = some (.string a0_1) := (blk_cell BK122.out 1).trans rfl; have hcz21_2 : w20.cell? ⟨gb122, 2, none⟩ = some (.int .i64 a0_2) := (blk_cell BK122.out 2).trans rfl; have hcz21_3 : w20.cell? ⟨gb122, 3, none⟩ = some (.int .i64 a0_3) := (blk_cell BK122.out 3).trans rfl; have hcz21_4 : w20.cell? ⟨gb122, 4, none⟩ = some (.string a0_4) := (blk_cell BK122.out 4).trans rfl; have hcz21_5 : w20.cell? ⟨gb122, 5, none⟩ = some (.slice A0_5 l0_5.length c0_5) := (blk_cell BK122.out 5).trans rfl; have hfz21_0 := blk_frozen BK122.out 0; have hfz21_1 := blk_frozen BK122.out 1; have hfz21_2 := blk_frozen BK122.out 2; have hfz21_3 := blk_frozen BK122.out 3; have hfz21_4 := blk_frozen BK122.out 4; have hfz21_5 := blk_frozen BK122.out 5))
          go_ret
          exact ⟨by first | rfl | (simp [errW_none, errW_some] <;> rfl) | (simp [*, errW_none, errW_some] <;> rfl), by repeat (first | (with_reducible first | exact HB.out | apply below_alloc | apply pw_below_drewN | apply below_drew1 | refine below_set ?_ GE122.out) | exact HB.out)⟩
        · rw [if_neg c19] at H
          have c19b0 : (a0_2 == 4) = false := beq_eq_false_iff_ne.mpr c19
          have c19b1 : (a0_2 != 4) = true := bne_iff_ne.mpr c19
          by_cases c22 : a0_2 = 5
          · rw [if_pos c22] at H
            have c22b0 : (a0_2 == 5) = true := beq_iff_eq.mpr c22
            have c22b1 : (a0_2 != 5) = false := bne_eq_false_iff_eq.mpr c22
            clear c22
            obtain rfl := Option.some.inj H
            go_enter Try.func58, Try.ntmps58
            go_wp2_with (first | ((with_reducible refine gate_dst (N := 1) rfl ?_); refine box_event ?hg (N := 1) ?hd (cs := #[.int .i64 a0_0, .string a0_1, .int .i64 a0_2, .int .i64 a0_3, .string a0_4, .slice A0_5 l0_5.length c0_5]) (t := 95) ?hr ?_; (case hd => rfl); (case hg => rfl); (case hr => first | (go_simp; done) | (go_simp; rfl)); intro gb122 hg w23 hbox hb; have n0_ := Aside0.mk (below_step (by repeat (first | (with_reducible first | exact HB.out | apply below_alloc | apply pw_below_drewN | apply below_drew1) | exact HB.out)) hb); have n1_ := Aside0.mk (hbox); have n2_ := Aside0.mk ((by rw [hg]; exact (below_size (by repeat (first | (with_reducible first | exact HB.out | apply below_alloc | apply pw_below_drewN | apply below_drew1) | exact HB.out))) : w.heap.size ≤ gb122)); have n3_ := Aside0.mk ((by rw [hg]; exact (below_size (by repeat (first | (with_reducible first | exact HB.out | apply below_alloc | apply pw_below_drewN | apply below_drew1) | exact HB.out))) : w.heap.size ≤ gb122)); clear HB; have HB := n0_; have BK122 := n1_; have GW122 := n2_; have GE122 := n3_; clear n0_ n1_ n2_ n3_; clear hb hbox hg; have hcz24_0 : w23.cell? ⟨gb122, 0, none⟩ = some (.int .i64 a0_0) := (blk_cell BK122.out 0).trans rfl; have hcz24_1 : w23.cell? ⟨gb122, 1, none⟩ = some (.string a0_1) := (blk_cell BK122.out 1).trans rfl; have hcz24_2 : w23.cell? ⟨gb122, 2, none⟩ = some (.int .i64 a0_2) := (blk_cell BK122.out 2).trans rfl; have hcz24_3 : w23.cell? ⟨gb122, 3, none⟩ = some (.int .i64 a0_3) := (blk_cell BK122.out 3).trans rfl; have hcz24_4 : w23.cell? ⟨gb122, 4, none⟩ = some (.string a0_4) := (blk_cell BK122.out 4).trans rfl; have hcz24_5 : w23.cell? ⟨gb122, 5, none⟩ = some (.slice A0_5 l0_5.length c0_5) := (blk_cell BK122.out 5).trans rfl; have hfz24_0 := blk_frozen BK122.out 0; have hfz24_1 := blk_frozen BK122.out 1; have hfz24_2 := blk_frozen BK122.out 2; have hfz24_3 := blk_frozen BK122.out 3; have hfz24_4 := blk_frozen BK122.out 4; have hfz24_5 := blk_frozen BK122.out 5))
            go_ret
            exact ⟨by first | rfl | (simp [errW_none, errW_some] <;> rfl) | (simp [*, errW_none, errW_some] <;> rfl), by repeat (first | (with_reducible first | exact HB.out | apply below_alloc | apply pw_below_drewN | apply below_drew1 | refine below_set ?_ GE122.out) | exact HB.out)⟩
          · rw [if_neg c22] at H
            have c22b0 : (a0_2 == 5) = false := beq_eq_false_iff_ne.mpr c22
            have c22b1 : (a0_2 != 5) = true := bne_iff_ne.mpr c22
            by_cases c25 : a0_2 = 6
            · rw [if_pos c25] at H
              have c25b0 : (a0_2 == 6) = true := beq_iff_eq.mpr c25
              have c25b1 : (a0_2 != 6) = false := bne_eq_false_iff_eq.mpr c25
              clear c25
              obtain rfl := Option.some.inj H
              go_enter Try.func58, Try.ntmps58
              go_wp2_with (first | ((with_reducible refine gate_dst (N := 1) rfl ?_); refine box_event ?hg (N := 1) ?hd (cs := #[.int .i64 a0_0, .string a0_1, .int .i64 a0_2, .int .i64 a0_3, .string a0_4, .slice A0_5 l0_5.length c0_5]) (t := 95) ?hr ?_; (case hd => rfl); (case hg => rfl); (case hr => first | (go_simp; done) | (go_simp; rfl)); intro gb122 hg w26 hbox hb; have n0_ := Aside0.mk (below_step (by repeat (first | (with_reducible first | exact HB.out | apply below_alloc | apply pw_below_drewN | apply below_drew1) | exact HB.out)) hb); have n1_ := Aside0.mk (hbox); have n2_ := Aside0.mk ((by rw [hg]; exact (below_size (by repeat (first | (with_reducible first | exact HB.out | apply below_alloc | apply pw_below_drewN | apply below_drew1) | exact HB.out))) : w.heap.size ≤ gb122)); have n3_ := Aside0.mk ((by rw [hg]; exact (below_size (by repeat (first | (with_reducible first | exact HB.out | apply below_alloc | apply pw_below_drewN | apply below_drew1) | exact HB.out))) : w.heap.size ≤ gb122)); clear HB; have HB := n0_; have BK122 := n1_; have GW122 := n2_; have GE122 := n3_; clear n0_ n1_ n2_ n3_; clear hb hbox hg; have hcz27_0 : w26.cell? ⟨gb122, 0, none⟩ = some (.int .i64 a0_0) := (blk_cell BK122.out 0).trans rfl; have hcz27_1 : w26.cell? ⟨gb122, 1, none⟩ = some (.string a0_1) := (blk_cell BK122.out 1).trans rfl; have hcz27_2 : w26.cell? ⟨gb122, 2, none⟩ = some (.int .i64 a0_2) := (blk_cell BK122.out 2).trans rfl; have hcz27_3 : w26.cell? ⟨gb122, 3, none⟩ = some (.int .i64 a0_3) := (blk_cell BK122.out 3).trans rfl; have hcz27_4 : w26.cell? ⟨gb122, 4, none⟩ = some (.string a0_4) := (blk_cell BK122.out 4).trans rfl; have hcz27_5 : w26.cell? ⟨gb122, 5, none⟩ = some (.slice A0_5 l0_5.length c0_5) := (blk_cell BK122.out 5).trans rfl; have hfz27_0 := blk_frozen BK122.out 0; have hfz27_1 := blk_frozen BK122.out 1; have hfz27_2 := blk_frozen BK122.out 2; have hfz27_3 := blk_frozen BK122.out 3; have hfz27_4 := blk_frozen BK122.out 4; have hfz27_5 := blk_frozen BK122.out 5))
              go_ret
              exact ⟨by first | rfl | (simp [errW_none, errW_some] <;> rfl) | (simp [*, errW_none, errW_some] <;> rfl), by repeat (first | (with_reducible first | exact HB.out | apply below_alloc | apply pw_below_drewN | apply below_drew1 | refine below_set ?_ GE122.out) | exact HB.out)⟩
            · rw [if_neg c25] at H
              have c25b0 : (a0_2 == 6) = false := beq_eq_false_iff_ne.mpr c25
              have c25b1 : (a0_2 != 6) = true := bne_iff_ne.mpr c25
              by_cases c28 : a0_2 = 7
              · rw [if_pos c28] at H
                have c28b0 : (a0_2 == 7) = true := beq_iff_eq.mpr c28
                have c28b1 : (a0_2 != 7) = false := bne_eq_false_iff_eq.mpr c28
                clear c28
                obtain rfl := Option.some.inj H
                go_enter Try.func58, Try.ntmps58
                go_wp2_with (first | ((with_reducible refine gate_dst (N := 1) rfl ?_); refine box_event ?hg (N := 1) ?hd (cs := #[.int .i64 a0_0, .string a0_1, .int .i64 a0_2, .int .i64 a0_3, .string a0_4, .slice A0_5 l0_5.length c0_5]) (t := 95) ?hr ?_; (case hd => rfl); (case hg => rfl); (case hr => first | (go_simp; done) | (go_simp; rfl)); intro gb122 hg w29 hbox hb; have n0_ := Aside0.mk (below_step (by repeat (first | (with_reducible first | exact HB.out | apply below_alloc | apply pw_below_drewN | apply below_drew1) | exact HB.out)) hb); have n1_ := Aside0.mk (hbox); have n2_ := Aside0.mk ((by rw [hg]; exact (below_size (by repeat (first | (with_reducible first | exact HB.out | apply below_alloc | apply pw_below_drewN | apply below_drew1) | exact HB.out))) : w.heap.size ≤ gb122)); have n3_ := Aside0.mk ((by rw [hg]; exact (below_size (by repeat (first | (with_reducible first | exact HB.out | apply below_alloc | apply pw_below_drewN | apply below_drew1) | exact HB.out))) : w.heap.size ≤ gb122)); clear HB; have HB := n0_; have BK122 := n1_; have GW122 := n2_; have GE122 := n3_; clear n0_ n1_ n2_ n3_; clear hb hbox hg; have hcz30_0 : w29.cell? ⟨gb122, 0, none⟩ = some (.int .i64 a0_0) := (blk_cell BK122.out 0).trans rfl; have hcz30_1 : w29.cell? ⟨gb122, 1, none⟩ = some (.string a0_1) := (blk_cell BK122.out 1).trans rfl; have hcz30_2 : w29.cell? ⟨gb122, 2, none⟩ = some (.int .i64 a0_2) := (blk_cell BK122.out 2).trans rfl; have hcz30_3 : w29.cell? ⟨gb122, 3, none⟩ = some (.int .i64 a0_3) := (blk_cell BK122.out 3).trans rfl; have hcz30_4 : w29.cell? ⟨gb122, 4, none⟩ = some (.string a0_4) := (blk_cell BK122.out 4).trans rfl; have hcz30_5 : w29.cell? ⟨gb122, 5, none⟩ = some (.slice A0_5 l0_5.length c0_5) := (blk_cell BK122.out 5).trans rfl; have hfz30_0 := blk_frozen BK122.out 0; have hfz30_1 := blk_frozen BK122.out 1; have hfz30_2 := blk_frozen BK122.out 2; have hfz30_3 := blk_frozen BK122.out 3; have hfz30_4 := blk_frozen BK122.out 4; have hfz30_5 := blk_frozen BK122.out 5))
                go_ret
                exact ⟨by first | rfl | (simp [errW_none, errW_some] <;> rfl) | (simp [*, errW_none, errW_some] <;> rfl), by repeat (first | (with_reducible first | exact HB.out | apply below_alloc | apply pw_below_drewN | apply below_drew1 | refine below_set ?_ GE122.out) | exact HB.out)⟩
              · rw [if_neg c28] at H
                have c28b0 : (a0_2 == 7) = false := beq_eq_false_iff_ne.mpr c28
                have c28b1 : (a0_2 != 7) = true := bne_iff_ne.mpr c28
                by_cases c31 : a0_2 = 8
                · rw [if_pos c31] at H
                  have c31b0 : (a0_2 == 8) = true := beq_iff_eq.mpr c31
                  have c31b1 : (a0_2 != 8) = false := bne_eq_false_iff_eq.mpr c31
                  clear c31
                  obtain rfl := Option.some.inj H
                  go_enter Try.func58, Try.ntmps58
                  go_wp2_with (first | ((with_reducible refine gate_dst (N := 1) rfl ?_); refine box_event ?hg (N := 1) ?hd (cs := #[.int .i64 a0_0, .string a0_1, .int .i64 a0_2, .int .i64 a0_3, .string a0_4, .slice A0_5 l0_5.length c0_5]) (t := 95) ?hr ?_; (case hd => rfl); (case hg => rfl); (case hr => first | (go_simp; done) | (go_simp; rfl)); intro gb122 hg w32 hbox hb; have n0_ := Aside0.mk (below_step (by repeat (first | (with_reducible first | exact HB.out | apply below_alloc | apply pw_below_drewN | apply below_drew1) | exact HB.out)) hb); have n1_ := Aside0.mk (hbox); have n2_ := Aside0.mk ((by rw [hg]; exact (below_size (by repeat (first | (with_reducible first | exact HB.out | apply below_alloc | apply pw_below_drewN | apply below_drew1) | exact HB.out))) : w.heap.size ≤ gb122)); have n3_ := Aside0.mk ((by rw [hg]; exact (below_size (by repeat (first | (with_reducible first | exact HB.out | apply below_alloc | apply pw_below_drewN | apply below_drew1) | exact HB.out))) : w.heap.size ≤ gb122)); clear HB; have HB := n0_; have BK122 := n1_; have GW122 := n2_; have GE122 := n3_; clear n0_ n1_ n2_ n3_; clear hb hbox hg; have hcz33_0 : w32.cell? ⟨gb122, 0, none⟩ = some (.int .i64 a0_0) := (blk_cell BK122.out 0).trans rfl; have hcz33_1 : w32.cell? ⟨gb122, 1, none⟩ = some (.string a0_1) := (blk_cell BK122.out 1).trans rfl; have hcz33_2 : w32.cell? ⟨gb122, 2, none⟩ = some (.int .i64 a0_2) := (blk_cell BK122.out 2).trans rfl; have hcz33_3 : w32.cell? ⟨gb122, 3, none⟩ = some (.int .i64 a0_3) := (blk_cell BK122.out 3).trans rfl; have hcz33_4 : w32.cell? ⟨gb122, 4, none⟩ = some (.string a0_4) := (blk_cell BK122.out 4).trans rfl; have hcz33_5 : w32.cell? ⟨gb122, 5, none⟩ = some (.slice A0_5 l0_5.length c0_5) := (blk_cell BK122.out 5).trans rfl; have hfz33_0 := blk_frozen BK122.out 0; have hfz33_1 := blk_frozen BK122.out 1; have hfz33_2 := blk_frozen BK122.out 2; have hfz33_3 := blk_frozen BK122.out 3; have hfz33_4 := blk_frozen BK122.out 4; have hfz33_5 := blk_frozen BK122.out 5))
                  go_ret
                  exact ⟨by first | rfl | (simp [errW_none, errW_some] <;> rfl) | (simp [*, errW_none, errW_some] <;> rfl), by repeat (first | (with_reducible first | exact HB.out | apply below_alloc | apply pw_below_drewN | apply below_drew1 | refine below_set ?_ GE122.out) | exact HB.out)⟩
                · rw [if_neg c31] at H
                  have c31b0 : (a0_2 == 8) = false := beq_eq_false_iff_ne.mpr c31
                  have c31b1 : (a0_2 != 8) = true := bne_iff_ne.mpr c31
                  obtain rfl := Option.some.inj H
                  go_enter Try.func58, Try.ntmps58
                  go_wp2_with (first | ((with_reducible refine gate_dst (N := 1) rfl ?_); refine box_event ?hg (N := 1) ?hd (cs := #[.int .i64 a0_0, .string a0_1, .int .i64 a0_2, .int .i64 a0_3, .string a0_4, .slice A0_5 l0_5.length c0_5]) (t := 95) ?hr ?_; (case hd => rfl); (case hg => rfl); (case hr => first | (go_simp; done) | (go_simp; rfl)); intro gb122 hg w34 hbox hb; have n0_ := Aside0.mk (below_step (by repeat (first | (with_reducible first | exact HB.out | apply below_alloc | apply pw_below_drewN | apply below_drew1) | exact HB.out)) hb); have n1_ := Aside0.mk (hbox); have n2_ := Aside0.mk ((by rw [hg]; exact (below_size (by repeat (first | (with_reducible first | exact HB.out | apply below_alloc | apply pw_below_drewN | apply below_drew1) | exact HB.out))) : w.heap.size ≤ gb122)); have n3_ := Aside0.mk ((by rw [hg]; exact (below_size (by repeat (first | (with_reducible first | exact HB.out | apply below_alloc | apply pw_below_drewN | apply below_drew1) | exact HB.out))) : w.heap.size ≤ gb122)); clear HB; have HB := n0_; have BK122 := n1_; have GW122 := n2_; have GE122 := n3_; clear n0_ n1_ n2_ n3_; clear hb hbox hg; have hcz35_0 : w34.cell? ⟨gb122, 0, none⟩ = some (.int .i64 a0_0) := (blk_cell BK122.out 0).trans rfl; have hcz35_1 : w34.cell? ⟨gb122, 1, none⟩ = some (.string a0_1) := (blk_cell BK122.out 1).trans rfl; have hcz35_2 : w34.cell? ⟨gb122, 2, none⟩ = some (.int .i64 a0_2) := (blk_cell BK122.out 2).trans rfl; have hcz35_3 : w34.cell? ⟨gb122, 3, none⟩ = some (.int .i64 a0_3) := (blk_cell BK122.out 3).trans rfl; have hcz35_4 : w34.cell? ⟨gb122, 4, none⟩ = some (.string a0_4) := (blk_cell BK122.out 4).trans rfl; have hcz35_5 : w34.cell? ⟨gb122, 5, none⟩ = some (.slice A0_5 l0_5.length c0_5) := (blk_cell BK122.out 5).trans rfl; have hfz35_0 := blk_frozen BK122.out 0; have hfz35_1 := blk_frozen BK122.out 1; have hfz35_2 := blk_frozen BK122.out 2; have hfz35_3 := blk_frozen BK122.out 3; have hfz35_4 := blk_frozen BK122.out 4; have hfz35_5 := blk_frozen BK122.out 5))
                  go_ret
                  exact ⟨by first | rfl | (simp [errW_none, errW_some] <;> rfl) | (simp [*, errW_none, errW_some] <;> rfl), by repeat (first | (with_reducible first | exact HB.out | apply below_alloc | apply pw_below_drewN | apply below_drew1 | refine below_set ?_ GE122.out) | exact HB.out)⟩

/-! ### letterpressref3_sign: function 74 -/
def letterpressref3_sign.f (a0 : Int) : Option (ByteArray × Int) := if a0 = 5 then (some ((⟨#[43]⟩ : ByteArray), 3)) else (if a0 = 6 then (some ((⟨#[45]⟩ : ByteArray), 3)) else (if a0 = 7 then (some ((⟨#[42]⟩ : ByteArray), 4)) else (if a0 = 8 then (some ((⟨#[38]⟩ : ByteArray), 1)) else (if a0 = 9 then (some ((⟨#[124]⟩ : ByteArray), 0)) else (if a0 = 10 then (some ((⟨#[60, 60]⟩ : ByteArray), 2)) else (some ((⟨#[62, 62]⟩ : ByteArray), 2)))))))
set_option maxHeartbeats 8000000 in
set_option maxRecDepth 100000 in
theorem letterpressref3_sign.calls (a0 : Int) (r1 : ByteArray) (r2 : Int) (w : World) (h : letterpressref3_sign.f a0 = some (r1, r2)) :
    Calls Try.prog 74 #[.int .i64 a0] w fun e w' => e = .returned (.tuple #[.string r1, .int .i64 r2]) ∧ Drawn0 w w' := by
  have H : (if a0 = 5 then (some ((⟨#[43]⟩ : ByteArray), 3)) else (if a0 = 6 then (some ((⟨#[45]⟩ : ByteArray), 3)) else (if a0 = 7 then (some ((⟨#[42]⟩ : ByteArray), 4)) else (if a0 = 8 then (some ((⟨#[38]⟩ : ByteArray), 1)) else (if a0 = 9 then (some ((⟨#[124]⟩ : ByteArray), 0)) else (if a0 = 10 then (some ((⟨#[60, 60]⟩ : ByteArray), 2)) else (some ((⟨#[62, 62]⟩ : ByteArray), 2)))))))) = some (r1, r2) := h
  clear h
  by_cases c2 : a0 = 5
  · rw [if_pos c2] at H
    have c2b0 : (a0 == 5) = true := beq_iff_eq.mpr c2
    have c2b1 : (a0 != 5) = false := bne_eq_false_iff_eq.mpr c2
    clear c2
    simp only [Option.some.injEq, Prod.mk.injEq] at H
    obtain ⟨rfl, rfl⟩ := H
    go_enter Try.func74, Try.ntmps74
    go_wp2
    go_ret2
    exact ⟨by first | rfl | (simp; done) | (simp [*]; done), by repeat (first | exact Drawn0.refl _ | apply Drawn0.step)⟩
  · rw [if_neg c2] at H
    have c2b0 : (a0 == 5) = false := beq_eq_false_iff_ne.mpr c2
    have c2b1 : (a0 != 5) = true := bne_iff_ne.mpr c2
    by_cases c3 : a0 = 6
    · rw [if_pos c3] at H
      have c3b0 : (a0 == 6) = true := beq_iff_eq.mpr c3
      have c3b1 : (a0 != 6) = false := bne_eq_false_iff_eq.mpr c3
      clear c3
      simp only [Option.some.injEq, Prod.mk.injEq] at H
      obtain ⟨rfl, rfl⟩ := H
      go_enter Try.func74, Try.ntmps74
      go_wp2
      go_ret2
      exact ⟨by first | rfl | (simp; done) | (simp [*]; done), by repeat (first | exact Drawn0.refl _ | apply Drawn0.step)⟩
    · rw [if_neg c3] at H
      have c3b0 : (a0 == 6) = false := beq_eq_false_iff_ne.mpr c3
      have c3b1 : (a0 != 6) = true := bne_iff_ne.mpr c3
      by_cases c4 : a0 = 7
      · rw [if_pos c4] at H
        have c4b0 : (a0 == 7) = true := beq_iff_eq.mpr c4
        have c4b1 : (a0 != 7) = false := bne_eq_false_iff_eq.mpr c4
        clear c4
        simp only [Option.some.injEq, Prod.mk.injEq] at H
        obtain ⟨rfl, rfl⟩ := H
        go_enter Try.func74, Try.ntmps74
        go_wp2
        go_ret2
        exact ⟨by first | rfl | (simp; done) | (simp [*]; done), by repeat (first | exact Drawn0.refl _ | apply Drawn0.step)⟩
      · rw [if_neg c4] at H
        have c4b0 : (a0 == 7) = false := beq_eq_false_iff_ne.mpr c4
        have c4b1 : (a0 != 7) = true := bne_iff_ne.mpr c4
        by_cases c5 : a0 = 8
        · rw [if_pos c5] at H
          have c5b0 : (a0 == 8) = true := beq_iff_eq.mpr c5
          have c5b1 : (a0 != 8) = false := bne_eq_false_iff_eq.mpr c5
          clear c5
          simp only [Option.some.injEq, Prod.mk.injEq] at H
          obtain ⟨rfl, rfl⟩ := H
          go_enter Try.func74, Try.ntmps74
          go_wp2
          go_ret2
          exact ⟨by first | rfl | (simp; done) | (simp [*]; done), by repeat (first | exact Drawn0.refl _ | apply Drawn0.step)⟩
        · rw [if_neg c5] at H
          have c5b0 : (a0 == 8) = false := beq_eq_false_iff_ne.mpr c5
          have c5b1 : (a0 != 8) = true := bne_iff_ne.mpr c5
          by_cases c6 : a0 = 9
          · rw [if_pos c6] at H
            have c6b0 : (a0 == 9) = true := beq_iff_eq.mpr c6
            have c6b1 : (a0 != 9) = false := bne_eq_false_iff_eq.mpr c6
            clear c6
            simp only [Option.some.injEq, Prod.mk.injEq] at H
            obtain ⟨rfl, rfl⟩ := H
            go_enter Try.func74, Try.ntmps74
            go_wp2
            go_ret2
            exact ⟨by first | rfl | (simp; done) | (simp [*]; done), by repeat (first | exact Drawn0.refl _ | apply Drawn0.step)⟩
          · rw [if_neg c6] at H
            have c6b0 : (a0 == 9) = false := beq_eq_false_iff_ne.mpr c6
            have c6b1 : (a0 != 9) = true := bne_iff_ne.mpr c6
            by_cases c7 : a0 = 10
            · rw [if_pos c7] at H
              have c7b0 : (a0 == 10) = true := beq_iff_eq.mpr c7
              have c7b1 : (a0 != 10) = false := bne_eq_false_iff_eq.mpr c7
              clear c7
              simp only [Option.some.injEq, Prod.mk.injEq] at H
              obtain ⟨rfl, rfl⟩ := H
              go_enter Try.func74, Try.ntmps74
              go_wp2
              go_ret2
              exact ⟨by first | rfl | (simp; done) | (simp [*]; done), by repeat (first | exact Drawn0.refl _ | apply Drawn0.step)⟩
            · rw [if_neg c7] at H
              have c7b0 : (a0 == 10) = false := beq_eq_false_iff_ne.mpr c7
              have c7b1 : (a0 != 10) = true := bne_iff_ne.mpr c7
              simp only [Option.some.injEq, Prod.mk.injEq] at H
              obtain ⟨rfl, rfl⟩ := H
              go_enter Try.func74, Try.ntmps74
              go_wp2
              go_ret2
              exact ⟨by first | rfl | (simp; done) | (simp [*]; done), by repeat (first | exact Drawn0.refl _ | apply Drawn0.step)⟩

/-! ### letterpressref4_Register: function 80 -/
mutual
def letterpressref4_Register.l0 : Nat → ByteArray → Int → Option (Bool)
  | 0, _, _ => none
  | k + 1, x0, x3 => if (wrap64 ((wrap64 (x3 + (x0.size : Int))) + 2)) ≤ 11 then (letterpressref4_Register.j1 k x0 x3 (decide ((x0.size : Int) > 0))) else (letterpressref4_Register.j1 k x0 x3 false)
def letterpressref4_Register.j1 : Nat → ByteArray → Int → Bool → Option (Bool)
  | 0, _, _, _ => none
  | k + 1, x0, x3, x14 => if x14 = true then (if 0 ≤ x3 then (if x3 ≤ (wrap64 ((wrap64 (x3 + (x0.size : Int))) + 2)) then (if (wrap64 ((wrap64 (x3 + (x0.size : Int))) + 2)) ≤ 11 then (if 1 + x0.size ≤ 9223372036854775807 then (if ((⟨#[32]⟩ : ByteArray) ++ x0).size + 1 ≤ 9223372036854775807 then (if ((⟨#[32, 88, 32, 89, 32, 68, 32, 65, 32, 66, 32]⟩ : ByteArray).extract (x3 : Int).toNat ((wrap64 ((wrap64 (x3 + (x0.size : Int))) + 2)) : Int).toNat).toList = (((⟨#[32]⟩ : ByteArray) ++ x0) ++ (⟨#[32]⟩ : ByteArray)).toList then (some true) else (letterpressref4_Register.l0 k x0 (wrap64 (x3 + 1)))) else (none)) else (none)) else (none)) else (none)) else (none)) else (some false)
end
def letterpressref4_Register.f (k : Nat) (a0 : ByteArray) : Option (Bool) := letterpressref4_Register.l0 k a0 0
theorem letterpressref4_Register.mono_l : ∀ k, (∀ y0 y1, LeO (letterpressref4_Register.l0 k y0 y1) (letterpressref4_Register.l0 (k + 1) y0 y1)) ∧ (∀ y0 y1 y2, LeO (letterpressref4_Register.j1 k y0 y1 y2) (letterpressref4_Register.j1 (k + 1) y0 y1 y2))
  | 0 => ⟨fun _ _ r h => by simp [letterpressref4_Register.l0] at h, fun _ _ _ r h => by simp [letterpressref4_Register.j1] at h⟩
  | k + 1 => by
    obtain ⟨ih0, ih1⟩ := letterpressref4_Register.mono_l k
    refine ⟨?_, ?_⟩
    · intro y0 y1
      unfold letterpressref4_Register.l0
      repeat' first
      | (with_reducible exact ih0 _ _)
      | (with_reducible exact ih1 _ _ _)
      | (with_reducible exact LeO.refl _)
      | (with_reducible exact LeO.none _)
      | (with_reducible refine LeO.ite ?_ ?_)
      | (with_reducible refine LeO.bind ?_ (fun _ => ?_))
      | exact ih0 _ _
      | exact ih1 _ _ _
      | exact LeO.none _
      | refine LeO.ite ?_ ?_
      | refine LeO.bind ?_ (fun _ => ?_)
    · intro y0 y1 y2
      unfold letterpressref4_Register.j1
      repeat' first
      | (with_reducible exact ih0 _ _)
      | (with_reducible exact ih1 _ _ _)
      | (with_reducible exact LeO.refl _)
      | (with_reducible exact LeO.none _)
      | (with_reducible refine LeO.ite ?_ ?_)
      | (with_reducible refine LeO.bind ?_ (fun _ => ?_))
      | exact ih0 _ _
      | exact ih1 _ _ _
      | exact LeO.none _
      | refine LeO.ite ?_ ?_
      | refine LeO.bind ?_ (fun _ => ?_)
theorem letterpressref4_Register.mono : ∀ a0 k, LeO (letterpressref4_Register.f k a0) (letterpressref4_Register.f (k + 1) a0) := by
  intro a0 k
  obtain ⟨ih0, ih1⟩ := letterpressref4_Register.mono_l k
  unfold letterpressref4_Register.f
  repeat' first
      | (with_reducible exact ih0 _ _)
      | (with_reducible exact ih1 _ _ _)
      | (with_reducible exact LeO.refl _)
      | (with_reducible exact LeO.none _)
      | (with_reducible refine LeO.ite ?_ ?_)
      | (with_reducible refine LeO.bind ?_ (fun _ => ?_))
      | exact ih0 _ _
      | exact ih1 _ _ _
      | exact LeO.none _
      | refine LeO.ite ?_ ?_
      | refine LeO.bind ?_ (fun _ => ?_)
set_option maxHeartbeats 8000000 in
set_option maxRecDepth 100000 in
theorem letterpressref4_Register.calls (k : Nat) (a0 : ByteArray) (r : Bool) (w : World) (h : letterpressref4_Register.f k a0 = some r) :
    Calls Try.prog 80 #[.string a0] w fun e w' => e = .returned (.bool r) ∧ Drawn0 w w' := by
  have H : (letterpressref4_Register.l0 k a0 0) = some r := h
  clear h
  have H' := Aside0.mk H
  clear H
  go_enter Try.func80, Try.ntmps80
  go_wp2
  go_loopg [3] k (fun kq v3 w' => ∃ (x3_1 : Int), v3 = .int .i64 x3_1 ∧ Aside0 (letterpressref4_Register.l0 kq a0 x3_1 = some r) ∧ Aside0 (kq ≤ k) ∧ Drawn0 w w')
  case atStart => exact ⟨(0), (by first | rfl | (simp; done) | (simp [*]; done)), H', ⟨Nat.le_refl _⟩, by repeat (first | exact Drawn0.refl _ | apply Drawn0.step)⟩
  case round =>
    clear H'
    obtain ⟨x3_1, rfl, HA, HK1, ⟨m1, rfl⟩⟩ := hrel
    cases gk with
    | zero => exact absurd HA.out (by simp [letterpressref4_Register.l0])
    | succ k1 =>
      have H := HA.out
      clear HA
      simp only [letterpressref4_Register.l0] at H
      have HC2 := Aside0.mk H
      clear H
      go_upto_region 2 with (fail)
      go_cut [14] (fun v14 wc => ∃ (kq : Nat) (x14_1 : Bool), v14 = .bool x14_1 ∧ Aside0 (letterpressref4_Register.j1 kq a0 x3_1 x14_1 = some r) ∧ Aside0 (kq ≤ k1) ∧ Drawn0 w wc)
      case first =>
        have H := HC2.out
        clear HC2
        by_cases c3 : (wrap64 ((wrap64 (x3_1 + (a0.size : Int))) + 2)) ≤ 11
        · rw [if_pos c3] at H
          have c3b0 : decide ((wrap64 ((wrap64 (x3_1 + (a0.size : Int))) + 2)) ≤ 11) = true := decide_eq_true c3
          clear c3
          (first | rw [c3b0] | (simp only [i64_w, i32_w]; rw [c3b0]) | skip)
          have H' := Aside0.mk H
          clear H
          go_wp2
          go_meet
          case rel => exact ⟨_, (decide ((a0.size : Int) > 0)), (by first | rfl | (simp; done) | (simp [*]; done)), H', ⟨by have := HK1.out; first | omega | exact Nat.le_refl _⟩, by repeat (first | exact Drawn0.refl _ | apply Drawn0.step)⟩
        · rw [if_neg c3] at H
          have c3b0 : decide ((wrap64 ((wrap64 (x3_1 + (a0.size : Int))) + 2)) ≤ 11) = false := decide_eq_false c3
          clear c3
          (first | rw [c3b0] | (simp only [i64_w, i32_w]; rw [c3b0]) | skip)
          have H' := Aside0.mk H
          clear H
          go_wp2
          go_meet
          case rel => exact ⟨_, (false), (by first | rfl | (simp; done) | (simp [*]; done)), H', ⟨by have := HK1.out; first | omega | exact Nat.le_refl _⟩, by repeat (first | exact Drawn0.refl _ | apply Drawn0.step)⟩
      case rest =>
        clear HC2
        try clear p2
        try clear c3
        try clear c3b0
        obtain ⟨kq, x14_1, rfl, HA, HJ1, ⟨mc1, rfl⟩⟩ := hcut
        cases kq with
        | zero => exact absurd HA.out (by simp [letterpressref4_Register.j1])
        | succ kj1 =>
          have H := HA.out
          clear HA
          simp only [letterpressref4_Register.j1] at H
          by_cases c4 : x14_1 = true
          · subst c4
            have H1 : (if 0 ≤ x3_1 then (if x3_1 ≤ (wrap64 ((wrap64 (x3_1 + (a0.size : Int))) + 2)) then (if (wrap64 ((wrap64 (x3_1 + (a0.size : Int))) + 2)) ≤ 11 then (if 1 + a0.size ≤ 9223372036854775807 then (if ((⟨#[32]⟩ : ByteArray) ++ a0).size + 1 ≤ 9223372036854775807 then (if ((⟨#[32, 88, 32, 89, 32, 68, 32, 65, 32, 66, 32]⟩ : ByteArray).extract (x3_1 : Int).toNat ((wrap64 ((wrap64 (x3_1 + (a0.size : Int))) + 2)) : Int).toNat).toList = (((⟨#[32]⟩ : ByteArray) ++ a0) ++ (⟨#[32]⟩ : ByteArray)).toList then (some true) else (letterpressref4_Register.l0 kj1 a0 (wrap64 (x3_1 + 1)))) else (none)) else (none)) else (none)) else (none)) else (none)) = some r := by rw [if_pos rfl] at H; exact H
            clear H
            have H := H1
            clear H1
            by_cases c5 : 0 ≤ x3_1
            · rw [if_pos c5] at H
              have c5b0 := eq_true c5
              have c5b1 : decide (0 ≤ x3_1) = true := decide_eq_true c5
              clear c5
              by_cases c6 : x3_1 ≤ (wrap64 ((wrap64 (x3_1 + (a0.size : Int))) + 2))
              · rw [if_pos c6] at H
                have c6b0 := eq_true c6
                have c6b1 : decide (x3_1 ≤ (wrap64 ((wrap64 (x3_1 + (a0.size : Int))) + 2))) = true := decide_eq_true c6
                by_cases c7 : (wrap64 ((wrap64 (x3_1 + (a0.size : Int))) + 2)) ≤ 11
                · rw [if_pos c7] at H
                  have c7b0 := eq_true c7
                  have c7b1 : decide ((wrap64 ((wrap64 (x3_1 + (a0.size : Int))) + 2)) ≤ 11) = true := decide_eq_true c7
                  by_cases c8 : 1 + a0.size ≤ 9223372036854775807
                  · rw [if_pos c8] at H
                    have c8b0 := eq_true c8
                    have c8b1 : decide (1 + a0.size ≤ 9223372036854775807) = true := decide_eq_true c8
                    try have c8b2 : (9223372036854775807 < 1 + a0.size) = False := eq_false (Nat.not_lt.2 c8)
                    by_cases c9 : ((⟨#[32]⟩ : ByteArray) ++ a0).size + 1 ≤ 9223372036854775807
                    · rw [if_pos c9] at H
                      have c9b0 := eq_true c9
                      have c9b1 : decide (((⟨#[32]⟩ : ByteArray) ++ a0).size + 1 ≤ 9223372036854775807) = true := decide_eq_true c9
                      try have c9b2 : (9223372036854775807 < ((⟨#[32]⟩ : ByteArray) ++ a0).size + 1) = False := eq_false (Nat.not_lt.2 c9)
                      try have c9b3 : (9223372036854775807 < 1 + a0.size + 1) = False := eq_false (by have h_ := c9; have l0_ : (⟨#[32]⟩ : ByteArray).size = 1 := rfl; simp only [ByteArray.size_append, l0_] at h_; omega)
                      by_cases c10 : ((⟨#[32, 88, 32, 89, 32, 68, 32, 65, 32, 66, 32]⟩ : ByteArray).extract (x3_1 : Int).toNat ((wrap64 ((wrap64 (x3_1 + (a0.size : Int))) + 2)) : Int).toNat).toList = (((⟨#[32]⟩ : ByteArray) ++ a0) ++ (⟨#[32]⟩ : ByteArray)).toList
                      · rw [if_pos c10] at H
                        have c10b0 : (((⟨#[32, 88, 32, 89, 32, 68, 32, 65, 32, 66, 32]⟩ : ByteArray).extract (x3_1 : Int).toNat ((wrap64 ((wrap64 (x3_1 + (a0.size : Int))) + 2)) : Int).toNat).toList == (((⟨#[32]⟩ : ByteArray) ++ a0) ++ (⟨#[32]⟩ : ByteArray)).toList) = true := beq_iff_eq.mpr c10
                        have c10b1 : (((⟨#[32, 88, 32, 89, 32, 68, 32, 65, 32, 66, 32]⟩ : ByteArray).extract (x3_1 : Int).toNat ((wrap64 ((wrap64 (x3_1 + (a0.size : Int))) + 2)) : Int).toNat).toList != (((⟨#[32]⟩ : ByteArray) ++ a0) ++ (⟨#[32]⟩ : ByteArray)).toList) = false := bne_eq_false_iff_eq.mpr c10
                        clear c10
                        obtain rfl := Option.some.inj H
                        go_wp2
                        go_ret
                        exact ⟨by first | rfl | (simp; done) | (simp [*]; done), by repeat (first | exact Drawn0.refl _ | apply Drawn0.step)⟩
                      · rw [if_neg c10] at H
                        have c10b0 : (((⟨#[32, 88, 32, 89, 32, 68, 32, 65, 32, 66, 32]⟩ : ByteArray).extract (x3_1 : Int).toNat ((wrap64 ((wrap64 (x3_1 + (a0.size : Int))) + 2)) : Int).toNat).toList == (((⟨#[32]⟩ : ByteArray) ++ a0) ++ (⟨#[32]⟩ : ByteArray)).toList) = false := beq_eq_false_iff_ne.mpr c10
                        have c10b1 : (((⟨#[32, 88, 32, 89, 32, 68, 32, 65, 32, 66, 32]⟩ : ByteArray).extract (x3_1 : Int).toNat ((wrap64 ((wrap64 (x3_1 + (a0.size : Int))) + 2)) : Int).toNat).toList != (((⟨#[32]⟩ : ByteArray) ++ a0) ++ (⟨#[32]⟩ : ByteArray)).toList) = true := bne_iff_ne.mpr c10
                        have H' := Aside0.mk H
                        clear H
                        go_wp2
                        go_roundg kj1
                        case measure => have := HK1.out; have := HJ1.out; omega
                        case rel => exact ⟨(wrap64 (x3_1 + 1)), (by first | rfl | (simp; done) | (simp [*]; done)), H', ⟨by have := HK1.out; have := HJ1.out; omega⟩, by repeat (first | exact Drawn0.refl _ | apply Drawn0.step)⟩
                    · rw [if_neg c9] at H
                      exact absurd H (by simp)
                  · rw [if_neg c8] at H
                    exact absurd H (by simp)
                · rw [if_neg c7] at H
                  exact absurd H (by simp)
              · rw [if_neg c6] at H
                exact absurd H (by simp)
            · rw [if_neg c5] at H
              exact absurd H (by simp)
          · replace c4 := Bool.eq_false_iff.mpr c4
            subst c4
            have H1 : (some false) = some r := by rw [if_neg (show ¬ (false = true) by decide)] at H; exact H
            clear H
            have H := H1
            clear H1
            obtain rfl := Option.some.inj H
            go_wp2
            go_ret
            exact ⟨by first | rfl | (simp; done) | (simp [*]; done), by repeat (first | exact Drawn0.refl _ | apply Drawn0.step)⟩

/-! ### letterpresslaw4_register: function 76 -/
def letterpresslaw4_register.f (k : Nat) (a0 : ByteArray) : Option (Bool) := (letterpressref4_Register.f k a0).bind fun t128 => (some t128)
theorem letterpresslaw4_register.mono : ∀ a0 k, LeO (letterpresslaw4_register.f k a0) (letterpresslaw4_register.f (k + 1) a0) := by
  intro a0 k
  unfold letterpresslaw4_register.f
  repeat' first
      | (with_reducible exact letterpressref4_Register.mono _ _)
      | (with_reducible exact LeO.refl _)
      | (with_reducible exact LeO.none _)
      | (with_reducible refine LeO.ite ?_ ?_)
      | (with_reducible refine LeO.bind ?_ (fun _ => ?_))
      | exact letterpressref4_Register.mono _ _
      | exact LeO.none _
      | refine LeO.ite ?_ ?_
      | refine LeO.bind ?_ (fun _ => ?_)
set_option maxHeartbeats 8000000 in
set_option maxRecDepth 100000 in
theorem letterpresslaw4_register.calls (k : Nat) (a0 : ByteArray) (r : Bool) (w : World) (h : letterpresslaw4_register.f k a0 = some r) :
    Calls Try.prog 76 #[.string a0] w fun e w' => e = .returned (.bool r) ∧ Drawn0 w w' := by
  have H : ((letterpressref4_Register.f k a0).bind fun t128 => (some t128)) = some r := h
  clear h
  replace H := Option.bind_eq_some_iff.mp H
  obtain ⟨t128, A20, H⟩ := H
  replace H : (some t128) = some r := H
  have A2 := Aside0.mk A20
  clear A20
  obtain rfl := Option.some.inj H
  go_enter Try.func76, Try.ntmps76
  go_wp2_with (first | ((with_reducible refine gate_callee (f := 80) rfl ?_); refine goesL_ (some 4) rfl rfl Try.func80 (by kernel_rfl) rfl #[.string a0] rfl (by (try simp only [List.map_toArray, List.map_cons, List.map_nil]); first | done | rfl | (simp only [List.length_drop, List.length_take]; rfl)) ?_; (with_reducible refine (letterpressref4_Register.calls k a0 t128 _ A2.out).mono ?_); rintro e w' ⟨rfl, ⟨nd, rfl⟩⟩; refine ⟨_, rfl, ?_⟩))
  go_ret
  exact ⟨by first | rfl | (simp; done) | (simp [*]; done), by repeat (first | exact Drawn0.refl _ | apply Drawn0.step)⟩

/-- THE ONE PURE STATEMENT of letterpresslaw4_register: yours. -/
def letterpresslaw4_register.Pure : Prop := ∀ (a0 : ByteArray), a0.size ≤ 140737488351232 → ∃ k, letterpresslaw4_register.f k a0 = some true
theorem letterpresslaw4_register.walk (P : letterpresslaw4_register.Pure) (a0 : ByteArray) (w : World) (w0 : a0.size ≤ 140737488351232) :
    Calls Try.prog 76 #[.string a0] w fun e w' => e = .returned (.bool true) ∧ Below w.heap.size w w' := by
  obtain ⟨k, h⟩ := P a0 w0
  refine (letterpresslaw4_register.calls k a0 true w h).mono ?_
  rintro e w' ⟨rfl, hd⟩
  exact ⟨rfl, hd.below⟩

/-! ### letterpresslaw4_Raw_number: function 64 -/
def letterpresslaw4_Raw_number.f (a0_0 : Int) (a0_1 : Int) (a0_2 : Int) (l0_3 : List Int) (l0_4 : List (S99)) (a0_5 : Bool) (a1 : Int) : Option (Int) := if a1 < (l0_3.length : Int) then (if 0 ≤ a1 then (some (rd l0_3 a1)) else (none)) else (some (wrap64 (a0_1 + a1)))
set_option maxHeartbeats 8000000 in
set_option maxRecDepth 100000 in
theorem letterpresslaw4_Raw_number.calls (a0_0 : Int) (a0_1 : Int) (a0_2 : Int) (A0_3 : Option Addr) (c0_3 : Nat) (l0_3 : List Int) (A0_4 : Option Addr) (c0_4 : Nat) (l0_4 : List (S99)) (a0_5 : Bool) (a1 : Int) (r : Int) (w : World) (hr0_3 : Kd.C (Kd.int .i64) w A0_3 l0_3.length l0_3) (hc0_3 : l0_3.length ≤ c0_3) (hr0_4 : Kd.C k99 w A0_4 l0_4.length l0_4) (hc0_4 : l0_4.length ≤ c0_4) (h : letterpresslaw4_Raw_number.f a0_0 a0_1 a0_2 l0_3 l0_4 a0_5 a1 = some r) :
    Calls Try.prog 64 #[.agg #[.int .i64 a0_0, .int .i64 a0_1, .int .i64 a0_2, .slice A0_3 l0_3.length c0_3, .slice A0_4 l0_4.length c0_4, .bool a0_5], .int .i64 a1] w fun e w' => e = .returned (.int .i64 r) ∧ Below w.heap.size w w' := by
  have hu63 := Try.underlying63
  have HR0_3 := Aside0.mk hr0_3
  have HC0_3 := Aside0.mk hc0_3
  clear hr0_3 hc0_3
  have HR0_4 := Aside0.mk hr0_4
  have HC0_4 := Aside0.mk hc0_4
  clear hr0_4 hc0_4
  have HB := Aside0.mk (Below.refl w.heap.size w)
  have H : (if a1 < (l0_3.length : Int) then (if 0 ≤ a1 then (some (rd l0_3 a1)) else (none)) else (some (wrap64 (a0_1 + a1)))) = some r := h
  clear h
  by_cases c3 : a1 < (l0_3.length : Int)
  · rw [if_pos c3] at H
    have c3b0 : decide (a1 < (l0_3.length : Int)) = true := decide_eq_true c3
    clear c3
    by_cases c4 : 0 ≤ a1
    · rw [if_pos c4] at H
      have c4b0 : decide (0 ≤ a1) = true := decide_eq_true c4
      clear c4
      obtain rfl := Option.some.inj H
      go_enter Try.func64, Try.ntmps64
      go_wp2_with (first | ((with_reducible refine gate_dst (N := 2) rfl ?_); refine box_event ?hg (N := 2) ?hd (cs := #[.int .i64 a0_0, .int .i64 a0_1, .int .i64 a0_2, .slice A0_3 l0_3.length c0_3, .slice A0_4 l0_4.length c0_4, .bool a0_5]) (t := 63) ?hr ?_; (case hd => rfl); (case hg => rfl); (case hr => first | (go_simp; done) | (go_simp; rfl)); intro gb129 hg w5 hbox hb; have n0_ := Aside0.mk (below_step (by repeat (first | (with_reducible first | exact HB.out | apply below_alloc | apply pw_below_drewN | apply below_drew1) | exact HB.out)) hb); have n1_ := Aside0.mk (hbox); have n2_ := Aside0.mk ((by rw [hg]; exact (below_size (by repeat (first | (with_reducible first | exact HB.out | apply below_alloc | apply pw_below_drewN | apply below_drew1) | exact HB.out))) : w.heap.size ≤ gb129)); have n3_ := Aside0.mk ((by rw [hg]; exact (below_size (by repeat (first | (with_reducible first | exact HB.out | apply below_alloc | apply pw_below_drewN | apply below_drew1) | exact HB.out))) : w.heap.size ≤ gb129)); clear HB; have HB := n0_; have BK129 := n1_; have GW129 := n2_; have GE129 := n3_; clear n0_ n1_ n2_ n3_; clear hb hbox hg; have hcz6_0 : w5.cell? ⟨gb129, 0, none⟩ = some (.int .i64 a0_0) := (blk_cell BK129.out 0).trans rfl; have hcz6_1 : w5.cell? ⟨gb129, 1, none⟩ = some (.int .i64 a0_1) := (blk_cell BK129.out 1).trans rfl; have hcz6_2 : w5.cell? ⟨gb129, 2, none⟩ = some (.int .i64 a0_2) := (blk_cell BK129.out 2).trans rfl; have hcz6_3 : w5.cell? ⟨gb129, 3, none⟩ = some (.slice A0_3 l0_3.length c0_3) := (blk_cell BK129.out 3).trans rfl; have hcz6_4 : w5.cell? ⟨gb129, 4, none⟩ = some (.slice A0_4 l0_4.length c0_4) := (blk_cell BK129.out 4).trans rfl; have hcz6_5 : w5.cell? ⟨gb129, 5, none⟩ = some (.bool a0_5) := (blk_cell BK129.out 5).trans rfl; have hfz6_0 := blk_frozen BK129.out 0; have hfz6_1 := blk_frozen BK129.out 1; have hfz6_2 := blk_frozen BK129.out 2; have hfz6_3 := blk_frozen BK129.out 3; have hfz6_4 := blk_frozen BK129.out 4; have hfz6_5 := blk_frozen BK129.out 5; have p130 : 0 ≤ (a1 : Int) := of_decide_eq_true (by first | (with_reducible assumption) | assumption); have q130 : a1 < (l0_3.length : Int) := of_decide_eq_true (by first | (with_reducible assumption) | assumption); obtain ⟨ad130, e130, hx130_0⟩ := Kd.at_int HR0_3.out a1 p130 q130; cases e130; replace hx130_0 := (HB.out.cell (World.block_lt_of_cell? w _ hx130_0)).trans hx130_0; replace p130 := eq_true p130; replace q130 := eq_true q130))
      go_ret
      exact ⟨by first | rfl | (simp [errW_none, errW_some] <;> rfl) | (simp [*, errW_none, errW_some] <;> rfl), by repeat (first | (with_reducible first | exact HB.out | apply below_alloc | apply pw_below_drewN | apply below_drew1 | refine below_set ?_ GE129.out) | exact HB.out)⟩
    · rw [if_neg c4] at H
      exact absurd H (by simp)
  · rw [if_neg c3] at H
    have c3b0 : decide (a1 < (l0_3.length : Int)) = false := decide_eq_false c3
    clear c3
    obtain rfl := Option.some.inj H
    go_enter Try.func64, Try.ntmps64
    go_wp2_with (first | ((with_reducible refine gate_dst (N := 2) rfl ?_); refine box_event ?hg (N := 2) ?hd (cs := #[.int .i64 a0_0, .int .i64 a0_1, .int .i64 a0_2, .slice A0_3 l0_3.length c0_3, .slice A0_4 l0_4.length c0_4, .bool a0_5]) (t := 63) ?hr ?_; (case hd => rfl); (case hg => rfl); (case hr => first | (go_simp; done) | (go_simp; rfl)); intro gb129 hg w7 hbox hb; have n0_ := Aside0.mk (below_step (by repeat (first | (with_reducible first | exact HB.out | apply below_alloc | apply pw_below_drewN | apply below_drew1) | exact HB.out)) hb); have n1_ := Aside0.mk (hbox); have n2_ := Aside0.mk ((by rw [hg]; exact (below_size (by repeat (first | (with_reducible first | exact HB.out | apply below_alloc | apply pw_below_drewN | apply below_drew1) | exact HB.out))) : w.heap.size ≤ gb129)); have n3_ := Aside0.mk ((by rw [hg]; exact (below_size (by repeat (first | (with_reducible first | exact HB.out | apply below_alloc | apply pw_below_drewN | apply below_drew1) | exact HB.out))) : w.heap.size ≤ gb129)); clear HB; have HB := n0_; have BK129 := n1_; have GW129 := n2_; have GE129 := n3_; clear n0_ n1_ n2_ n3_; clear hb hbox hg; have hcz8_0 : w7.cell? ⟨gb129, 0, none⟩ = some (.int .i64 a0_0) := (blk_cell BK129.out 0).trans rfl; have hcz8_1 : w7.cell? ⟨gb129, 1, none⟩ = some (.int .i64 a0_1) := (blk_cell BK129.out 1).trans rfl; have hcz8_2 : w7.cell? ⟨gb129, 2, none⟩ = some (.int .i64 a0_2) := (blk_cell BK129.out 2).trans rfl; have hcz8_3 : w7.cell? ⟨gb129, 3, none⟩ = some (.slice A0_3 l0_3.length c0_3) := (blk_cell BK129.out 3).trans rfl; have hcz8_4 : w7.cell? ⟨gb129, 4, none⟩ = some (.slice A0_4 l0_4.length c0_4) := (blk_cell BK129.out 4).trans rfl; have hcz8_5 : w7.cell? ⟨gb129, 5, none⟩ = some (.bool a0_5) := (blk_cell BK129.out 5).trans rfl; have hfz8_0 := blk_frozen BK129.out 0; have hfz8_1 := blk_frozen BK129.out 1; have hfz8_2 := blk_frozen BK129.out 2; have hfz8_3 := blk_frozen BK129.out 3; have hfz8_4 := blk_frozen BK129.out 4; have hfz8_5 := blk_frozen BK129.out 5))
    go_ret
    exact ⟨by first | rfl | (simp [errW_none, errW_some] <;> rfl) | (simp [*, errW_none, errW_some] <;> rfl), by repeat (first | (with_reducible first | exact HB.out | apply below_alloc | apply pw_below_drewN | apply below_drew1 | refine below_set ?_ GE129.out) | exact HB.out)⟩

/-- A state of type 126 at block g of W; what its slices lead to came in by w0. -/
def IsS126 (w0 W : World) (g : Nat) (f0 : ByteArray) (f1 : Int) (f2 : Int) (f3 : Bool) : Prop := W.heap[g]? = some (.cells #[.string f0, .int .i64 f1, .int .i64 f2, .bool f3] 126 (0, 0)) ∧ w0.heap.size ≤ g
theorem IsS126.grown {w0 W : World} {g : Nat} {f0 : ByteArray} {f1 : Int} {f2 : Int} {f3 : Bool} {W1 : World} {row : Option Nat} (h : IsS126 w0 W g f0 f1 f2 f3) (hw : W.grownBy W1 row) (hne : some g ≠ row) : IsS126 w0 W1 g f0 f1 f2 f3 := by
  obtain ⟨hb, hg⟩ := h
  exact ⟨blk_grown hb hw hne, hg⟩
theorem IsS126.kept {w0 W : World} {g : Nat} {f0 : ByteArray} {f1 : Int} {f2 : Int} {f3 : Bool} {W1 : World} {S : Nat → Prop} (h : IsS126 w0 W g f0 f1 f2 f3) (hk : Kept W W1 S) (hne : ¬ S g) : IsS126 w0 W1 g f0 f1 f2 f3 := by
  obtain ⟨hb, hg⟩ := h
  exact ⟨blk_kept hb hk hne, hg⟩
theorem IsS126.below {w0 W : World} {g : Nat} {f0 : ByteArray} {f1 : Int} {f2 : Int} {f3 : Bool} {W1 : World} (h : IsS126 w0 W g f0 f1 f2 f3) (hw : Below W.heap.size W W1) : IsS126 w0 W1 g f0 f1 f2 f3 := h.grown (grown_of_below hw none) (by simp)
theorem IsS126.alloc {w0 W : World} {g : Nat} {f0 : ByteArray} {f1 : Int} {f2 : Int} {f3 : Bool} (h : IsS126 w0 W g f0 f1 f2 f3) (o : Obj) : IsS126 w0 (W.alloc o) g f0 f1 f2 f3 := h.below (below_alloc (Below.refl _ _) o)
theorem IsS126.drewN {w0 W : World} {g : Nat} {f0 : ByteArray} {f1 : Int} {f2 : Int} {f3 : Bool} (h : IsS126 w0 W g f0 f1 f2 f3) (m : Nat) : IsS126 w0 (W.drewN m) g f0 f1 f2 f3 := h
theorem IsS126.drew {w0 W : World} {g : Nat} {f0 : ByteArray} {f1 : Int} {f2 : Int} {f3 : Bool} (h : IsS126 w0 W g f0 f1 f2 f3) : IsS126 w0 W.drew g f0 f1 f2 f3 := h
theorem IsS126.at_ {w0 W : World} {g : Nat} {f0 : ByteArray} {f1 : Int} {f2 : Int} {f3 : Bool} {w' : World} {m : Nat} (hq : W.drewN m = w') (h : IsS126 w0 W g f0 f1 f2 f3) : IsS126 w0 w' g f0 f1 f2 f3 := by subst hq; exact IsS126.drewN h m
theorem IsS126.apart {w0 W : World} {g : Nat} {f0 : ByteArray} {f1 : Int} {f2 : Int} {f3 : Bool} {α : Type} {d : Kd α} {e : Nat} {base : Nat} {ok : Nat → Prop} {v : Value} {xs : List α} (h : IsS126 w0 W g f0 f1 f2 f3) (ho : d.R e W base ok v xs) (ht : ∀ q, q ∈ e :: d.E → q ≠ 126) : d.R e W base (fun k => ok k ∧ k ≠ g) v xs := by
  obtain ⟨hb, hg⟩ := h
  exact Kd.R_types ho hb ht
theorem IsS126.own_ne {w0 W : World} {g : Nat} {f0 : ByteArray} {f1 : Int} {f2 : Int} {f3 : Bool} {α : Type} {d : Kd α} {e : Nat} {base : Nat} {ok : Nat → Prop} {v : Value} {xs : List α} (h : IsS126 w0 W g f0 f1 f2 f3) (ho : d.R e W base ok v xs) (ht : e ≠ 126) : some g ≠ v.ownBlock := by
  obtain ⟨hb, hg⟩ := h
  exact Kd.R_ne ho hb ht
theorem IsS126.lt {w0 W : World} {g : Nat} {f0 : ByteArray} {f1 : Int} {f2 : Int} {f3 : Bool} (h : IsS126 w0 W g f0 f1 f2 f3) : g < W.heap.size := by
  obtain ⟨hb, hg⟩ := h
  exact blk_lt hb
theorem IsS126.ge {w0 W : World} {g : Nat} {f0 : ByteArray} {f1 : Int} {f2 : Int} {f3 : Bool} (h : IsS126 w0 W g f0 f1 f2 f3) : w0.heap.size ≤ g := by
  obtain ⟨hb, hg⟩ := h
  exact hg
theorem IsS126.far {w0 W : World} {g : Nat} {f0 : ByteArray} {f1 : Int} {f2 : Int} {f3 : Bool} {p : Addr} (h : IsS126 w0 W g f0 f1 f2 f3) (hne : g ≠ p.block) (u : Value) : IsS126 w0 (W.setCell p u) g f0 f1 f2 f3 := by
  obtain ⟨hb, hg⟩ := h
  exact ⟨blk_far hb hne u, hg⟩
theorem cellS126_0 {W : World} {g : Nat} {f0 : ByteArray} {f1 : Int} {f2 : Int} {f3 : Bool} (h : W.heap[g]? = some (.cells #[.string f0, .int .i64 f1, .int .i64 f2, .bool f3] 126 (0, 0))) : W.cell? ⟨g, 0, none⟩ = some (.string f0) := (blk_cell h 0).trans rfl
theorem IsS126.set_0 {w0 W : World} {g : Nat} {f0 : ByteArray} {f1 : Int} {f2 : Int} {f3 : Bool} (h : IsS126 w0 W g f0 f1 f2 f3) (x : ByteArray) : IsS126 w0 (W.setCell ⟨g, 0, none⟩ (.string x)) g x f1 f2 f3 := by
  obtain ⟨hb, hg⟩ := h
  exact ⟨by simpa using blk_set hb 0 (.string x), hg⟩
theorem cellS126_1 {W : World} {g : Nat} {f0 : ByteArray} {f1 : Int} {f2 : Int} {f3 : Bool} (h : W.heap[g]? = some (.cells #[.string f0, .int .i64 f1, .int .i64 f2, .bool f3] 126 (0, 0))) : W.cell? ⟨g, 1, none⟩ = some (.int .i64 f1) := (blk_cell h 1).trans rfl
theorem IsS126.set_1 {w0 W : World} {g : Nat} {f0 : ByteArray} {f1 : Int} {f2 : Int} {f3 : Bool} (h : IsS126 w0 W g f0 f1 f2 f3) (x : Int) : IsS126 w0 (W.setCell ⟨g, 1, none⟩ (.int .i64 x)) g f0 x f2 f3 := by
  obtain ⟨hb, hg⟩ := h
  exact ⟨by simpa using blk_set hb 1 (.int .i64 x), hg⟩
theorem cellS126_2 {W : World} {g : Nat} {f0 : ByteArray} {f1 : Int} {f2 : Int} {f3 : Bool} (h : W.heap[g]? = some (.cells #[.string f0, .int .i64 f1, .int .i64 f2, .bool f3] 126 (0, 0))) : W.cell? ⟨g, 2, none⟩ = some (.int .i64 f2) := (blk_cell h 2).trans rfl
theorem IsS126.set_2 {w0 W : World} {g : Nat} {f0 : ByteArray} {f1 : Int} {f2 : Int} {f3 : Bool} (h : IsS126 w0 W g f0 f1 f2 f3) (x : Int) : IsS126 w0 (W.setCell ⟨g, 2, none⟩ (.int .i64 x)) g f0 f1 x f3 := by
  obtain ⟨hb, hg⟩ := h
  exact ⟨by simpa using blk_set hb 2 (.int .i64 x), hg⟩
theorem cellS126_3 {W : World} {g : Nat} {f0 : ByteArray} {f1 : Int} {f2 : Int} {f3 : Bool} (h : W.heap[g]? = some (.cells #[.string f0, .int .i64 f1, .int .i64 f2, .bool f3] 126 (0, 0))) : W.cell? ⟨g, 3, none⟩ = some (.bool f3) := (blk_cell h 3).trans rfl
theorem IsS126.set_3 {w0 W : World} {g : Nat} {f0 : ByteArray} {f1 : Int} {f2 : Int} {f3 : Bool} (h : IsS126 w0 W g f0 f1 f2 f3) (x : Bool) : IsS126 w0 (W.setCell ⟨g, 3, none⟩ (.bool x)) g f0 f1 f2 x := by
  obtain ⟨hb, hg⟩ := h
  exact ⟨by simpa using blk_set hb 3 (.bool x), hg⟩
theorem IsS126.new (w0 W : World) (f0 : ByteArray) (f1 : Int) (f2 : Int) (f3 : Bool) (hB : Below w0.heap.size w0 W) : IsS126 w0 (W.alloc (.cells #[.string f0, .int .i64 f1, .int .i64 f2, .bool f3] 126)) W.heap.size f0 f1 f2 f3 := ⟨by simpa using heap_alloc_new W _, hB.size⟩

/-! ### letterpressref3_reader_past: function 83 -/
def letterpressref3_reader_past.l0 : Nat → ByteArray → Int → Int → Bool → Option (ByteArray × Int × Int × Bool)
  | 0, _, _, _, _ => none
  | k + 1, x1000, x1001, x1002, x1003 => if x1001 < (x1000.size : Int) then (if 0 ≤ x1001 then (if (bt x1000 x1001) = 32 then (letterpressref3_reader_past.l0 k x1000 (wrap64 (x1001 + 1)) x1002 x1003) else (some (x1000, x1001, x1002, x1003))) else (none)) else (some (x1000, x1001, x1002, x1003))
def letterpressref3_reader_past.f (k : Nat) (s0_0 : ByteArray) (s0_1 : Int) (s0_2 : Int) (s0_3 : Bool) : Option (ByteArray × Int × Int × Bool) := letterpressref3_reader_past.l0 k s0_0 s0_1 s0_2 s0_3
theorem letterpressref3_reader_past.mono_l : ∀ k, (∀ y0 y1 y2 y3, LeO (letterpressref3_reader_past.l0 k y0 y1 y2 y3) (letterpressref3_reader_past.l0 (k + 1) y0 y1 y2 y3))
  | 0 => fun _ _ _ _ r h => by simp [letterpressref3_reader_past.l0] at h
  | k + 1 => by
    have ih0 := letterpressref3_reader_past.mono_l k
    · intro y0 y1 y2 y3
      unfold letterpressref3_reader_past.l0
      repeat' first
      | (with_reducible exact ih0 _ _ _ _)
      | (with_reducible exact LeO.refl _)
      | (with_reducible exact LeO.none _)
      | (with_reducible refine LeO.ite ?_ ?_)
      | (with_reducible refine LeO.bind ?_ (fun _ => ?_))
      | exact ih0 _ _ _ _
      | exact LeO.none _
      | refine LeO.ite ?_ ?_
      | refine LeO.bind ?_ (fun _ => ?_)
theorem letterpressref3_reader_past.mono : ∀ a0 a1 a2 a3 k, LeO (letterpressref3_reader_past.f k a0 a1 a2 a3) (letterpressref3_reader_past.f (k + 1) a0 a1 a2 a3) := by
  intro a0 a1 a2 a3 k
  have ih0 := letterpressref3_reader_past.mono_l k
  unfold letterpressref3_reader_past.f
  repeat' first
      | (with_reducible exact ih0 _ _ _ _)
      | (with_reducible exact LeO.refl _)
      | (with_reducible exact LeO.none _)
      | (with_reducible refine LeO.ite ?_ ?_)
      | (with_reducible refine LeO.bind ?_ (fun _ => ?_))
      | exact ih0 _ _ _ _
      | exact LeO.none _
      | refine LeO.ite ?_ ?_
      | refine LeO.bind ?_ (fun _ => ?_)
set_option maxHeartbeats 8000000 in
set_option maxRecDepth 100000 in
theorem letterpressref3_reader_past.calls (k : Nat) (g : Nat) (s0_0 : ByteArray) (s0_1 : Int) (s0_2 : Int) (s0_3 : Bool) (r1 : ByteArray) (r2 : Int) (r3 : Int) (r4 : Bool) (w0 w : World) (hI : IsS126 w0 w g s0_0 s0_1 s0_2 s0_3) (hB : Below w0.heap.size w0 w) (h : letterpressref3_reader_past.f k s0_0 s0_1 s0_2 s0_3 = some (r1, r2, r3, r4)) :
    Calls Try.prog 83 #[.pointer (some ⟨g, 0, none⟩)] w fun e w' => e = .returned (.tuple #[]) ∧ IsS126 w0 w' g r1 r2 r3 r4 ∧ Below w0.heap.size w0 w' ∧ KeepBut w w' g none := by
  have HI0 := Aside0.mk hI
  have HK := Aside0.mk (KeepBut.refl w g none)
  have HL := Aside0.mk hB.size
  clear hI
  have HW0 := Aside0.mk hB.size
  have HB := Aside0.mk hB
  clear hB
  have H : (letterpressref3_reader_past.l0 k s0_0 s0_1 s0_2 s0_3) = some (r1, r2, r3, r4) := h
  clear h
  have H' := Aside0.mk H
  clear H
  go_enter Try.func83, Try.ntmps83
  go_wp2
  repeat (go_quiet (fail); try go_wp2)
  go_loopg [] k (fun kq w' => ∃ (x1001_1 : Int), Aside0 (letterpressref3_reader_past.l0 kq s0_0 x1001_1 s0_2 s0_3 = some (r1, r2, r3, r4)) ∧ Aside0 (kq ≤ k) ∧ Aside0 (IsS126 w0 w' g s0_0 x1001_1 s0_2 s0_3) ∧ Aside0 (KeepBut w w' g none) ∧ Aside0 (Below w0.heap.size w0 w'))
  case atStart => exact ⟨(s0_1), H', ⟨Nat.le_refl _⟩, ⟨by repeat (first | (with_reducible first | exact HI0.out | apply IsS126.alloc | apply IsS126.drewN | apply IsS126.drew | apply IsS126.set_0 | apply IsS126.set_1 | apply IsS126.set_2 | apply IsS126.set_3) | exact HI0.out)⟩, ⟨by repeat (first | (with_reducible first | exact HK.out | apply KeepBut.set_ | apply keep_drewN | apply keep_drew | apply keep_alloc) | exact HK.out)⟩, ⟨by repeat (first | (with_reducible first | exact HB.out | apply below_alloc | apply pw_below_drewN | apply below_drew1 | refine below_set ?_ (IsS126.ge HI0.out)) | exact HB.out)⟩⟩
  case round =>
    clear H'
    obtain ⟨x1001_1, HA, HK1, HI0, HK, HB⟩ := hrel
    cases gk with
    | zero => exact absurd HA.out (by simp [letterpressref3_reader_past.l0])
    | succ k1 =>
      have H := HA.out
      clear HA
      simp only [letterpressref3_reader_past.l0] at H
      by_cases c2 : x1001_1 < (s0_0.size : Int)
      · rw [if_pos c2] at H
        have c2b0 : decide (x1001_1 < (s0_0.size : Int)) = true := decide_eq_true c2
        clear c2
        by_cases c3 : 0 ≤ x1001_1
        · rw [if_pos c3] at H
          have c3b0 : decide (0 ≤ x1001_1) = true := decide_eq_true c3
          clear c3
          by_cases c5 : (bt s0_0 x1001_1) = 32
          · rw [if_pos c5] at H
            have c5b0 : ((bt s0_0 x1001_1) == 32) = true := beq_iff_eq.mpr c5
            have c5b1 : ((bt s0_0 x1001_1) != 32) = false := bne_eq_false_iff_eq.mpr c5
            clear c5
            have H' := Aside0.mk H
            clear H
            obtain ⟨HGz6, hgz6⟩ := HI0.out
            have hcz6_0 := cellS126_0 HGz6
            have hcz6_1 := cellS126_1 HGz6
            have hcz6_2 := cellS126_2 HGz6
            have hcz6_3 := cellS126_3 HGz6
            have hfz6_0 := blk_frozen HGz6 0
            have hfz6_1 := blk_frozen HGz6 1
            have hfz6_2 := blk_frozen HGz6 2
            have hfz6_3 := blk_frozen HGz6 3
            clear HGz6 hgz6
            have p4 : 0 ≤ (x1001_1 : Int) := of_decide_eq_true (by first | (with_reducible assumption) | assumption)
            have q4 : x1001_1 < (s0_0.size : Int) := of_decide_eq_true (by first | (with_reducible assumption) | assumption)
            have hx4 := bt_at s0_0 x1001_1
            replace p4 := eq_true p4
            replace q4 := eq_true q4
            go_wp2
            repeat (go_quiet (fail); try go_wp2)
            go_roundg k1
            case measure => have := HK1.out; omega
            case rel => exact ⟨(wrap64 (x1001_1 + 1)), H', ⟨by have := HK1.out; omega⟩, ⟨by repeat (first | (with_reducible first | exact HI0.out | apply IsS126.alloc | apply IsS126.drewN | apply IsS126.drew | apply IsS126.set_0 | apply IsS126.set_1 | apply IsS126.set_2 | apply IsS126.set_3) | exact HI0.out)⟩, ⟨by repeat (first | (with_reducible first | exact HK.out | apply KeepBut.set_ | apply keep_drewN | apply keep_drew | apply keep_alloc) | exact HK.out)⟩, ⟨by repeat (first | (with_reducible first | exact HB.out | apply below_alloc | apply pw_below_drewN | apply below_drew1 | refine below_set ?_ (IsS126.ge HI0.out)) | exact HB.out)⟩⟩
          · rw [if_neg c5] at H
            have c5b0 : ((bt s0_0 x1001_1) == 32) = false := beq_eq_false_iff_ne.mpr c5
            have c5b1 : ((bt s0_0 x1001_1) != 32) = true := bne_iff_ne.mpr c5
            simp only [Option.some.injEq, Prod.mk.injEq] at H
            obtain ⟨rfl, rfl, rfl, rfl⟩ := H
            obtain ⟨HGz7, hgz7⟩ := HI0.out
            have hcz7_0 := cellS126_0 HGz7
            have hcz7_1 := cellS126_1 HGz7
            have hcz7_2 := cellS126_2 HGz7
            have hcz7_3 := cellS126_3 HGz7
            have hfz7_0 := blk_frozen HGz7 0
            have hfz7_1 := blk_frozen HGz7 1
            have hfz7_2 := blk_frozen HGz7 2
            have hfz7_3 := blk_frozen HGz7 3
            clear HGz7 hgz7
            have p4 : 0 ≤ (x1001_1 : Int) := of_decide_eq_true (by first | (with_reducible assumption) | assumption)
            have q4 : x1001_1 < (s0_0.size : Int) := of_decide_eq_true (by first | (with_reducible assumption) | assumption)
            have hx4 := bt_at s0_0 x1001_1
            replace p4 := eq_true p4
            replace q4 := eq_true q4
            go_wp2
            repeat (go_quiet (fail); try go_wp2)
            first | go_end0 | ((try simp only [Exit.inBlock, Exit.then]); refine bodyPost_ret (results_none rfl _ _ _) rfl ?_)
            exact ⟨by first | rfl | (simp [errW_none, errW_some] <;> rfl) | (simp [*, errW_none, errW_some] <;> rfl), by repeat (first | (with_reducible first | exact HI0.out | apply IsS126.alloc | apply IsS126.drewN | apply IsS126.drew | apply IsS126.set_0 | apply IsS126.set_1 | apply IsS126.set_2 | apply IsS126.set_3) | exact HI0.out), by repeat (first | (with_reducible first | exact HB.out | apply below_alloc | apply pw_below_drewN | apply below_drew1 | refine below_set ?_ (IsS126.ge HI0.out)) | exact HB.out), by repeat (first | (with_reducible first | exact HK.out | apply KeepBut.set_ | apply keep_drewN | apply keep_drew | apply keep_alloc) | exact HK.out)⟩
        · rw [if_neg c3] at H
          exact absurd H (by simp)
      · rw [if_neg c2] at H
        have c2b0 : decide (x1001_1 < (s0_0.size : Int)) = false := decide_eq_false c2
        clear c2
        simp only [Option.some.injEq, Prod.mk.injEq] at H
        obtain ⟨rfl, rfl, rfl, rfl⟩ := H
        obtain ⟨HGz8, hgz8⟩ := HI0.out
        have hcz8_0 := cellS126_0 HGz8
        have hcz8_1 := cellS126_1 HGz8
        have hcz8_2 := cellS126_2 HGz8
        have hcz8_3 := cellS126_3 HGz8
        have hfz8_0 := blk_frozen HGz8 0
        have hfz8_1 := blk_frozen HGz8 1
        have hfz8_2 := blk_frozen HGz8 2
        have hfz8_3 := blk_frozen HGz8 3
        clear HGz8 hgz8
        go_wp2
        repeat (go_quiet (fail); try go_wp2)
        first | go_end0 | ((try simp only [Exit.inBlock, Exit.then]); refine bodyPost_ret (results_none rfl _ _ _) rfl ?_)
        exact ⟨by first | rfl | (simp [errW_none, errW_some] <;> rfl) | (simp [*, errW_none, errW_some] <;> rfl), by repeat (first | (with_reducible first | exact HI0.out | apply IsS126.alloc | apply IsS126.drewN | apply IsS126.drew | apply IsS126.set_0 | apply IsS126.set_1 | apply IsS126.set_2 | apply IsS126.set_3) | exact HI0.out), by repeat (first | (with_reducible first | exact HB.out | apply below_alloc | apply pw_below_drewN | apply below_drew1 | refine below_set ?_ (IsS126.ge HI0.out)) | exact HB.out), by repeat (first | (with_reducible first | exact HK.out | apply KeepBut.set_ | apply keep_drewN | apply keep_drew | apply keep_alloc) | exact HK.out)⟩

/-! ### letterpressref3_reader_is: function 89 -/
def letterpressref3_reader_is.f (k : Nat) (s0_0 : ByteArray) (s0_1 : Int) (s0_2 : Int) (s0_3 : Bool) (a1 : ByteArray) : Option (Bool × ByteArray × Int × Int × Bool) := (letterpressref3_reader_past.f k s0_0 s0_1 s0_2 s0_3).bind fun bt131 => (if (wrap64 (bt131.2.1 + (a1.size : Int))) > (bt131.1.size : Int) then (some (false, bt131.1, bt131.2.1, bt131.2.2.1, bt131.2.2.2)) else (if 0 ≤ bt131.2.1 then (if bt131.2.1 ≤ (wrap64 (bt131.2.1 + (a1.size : Int))) then (if (wrap64 (bt131.2.1 + (a1.size : Int))) ≤ (bt131.1.size : Int) then (if (bt131.1.extract (bt131.2.1 : Int).toNat ((wrap64 (bt131.2.1 + (a1.size : Int))) : Int).toNat).toList = a1.toList then (some (true, bt131.1, wrap64 (bt131.2.1 + (a1.size : Int)), bt131.2.2.1, bt131.2.2.2)) else (some (false, bt131.1, bt131.2.1, bt131.2.2.1, bt131.2.2.2))) else (none)) else (none)) else (none)))
theorem letterpressref3_reader_is.mono : ∀ a0 a1 a2 a3 a4 k, LeO (letterpressref3_reader_is.f k a0 a1 a2 a3 a4) (letterpressref3_reader_is.f (k + 1) a0 a1 a2 a3 a4) := by
  intro a0 a1 a2 a3 a4 k
  unfold letterpressref3_reader_is.f
  repeat' first
      | (with_reducible exact letterpressref3_reader_past.mono _ _ _ _ _)
      | (with_reducible exact LeO.refl _)
      | (with_reducible exact LeO.none _)
      | (with_reducible refine LeO.ite ?_ ?_)
      | (with_reducible refine LeO.bind ?_ (fun _ => ?_))
      | exact letterpressref3_reader_past.mono _ _ _ _ _
      | exact LeO.none _
      | refine LeO.ite ?_ ?_
      | refine LeO.bind ?_ (fun _ => ?_)
set_option maxHeartbeats 8000000 in
set_option maxRecDepth 100000 in
theorem letterpressref3_reader_is.calls (k : Nat) (g : Nat) (s0_0 : ByteArray) (s0_1 : Int) (s0_2 : Int) (s0_3 : Bool) (a1 : ByteArray) (r1 : Bool) (r2 : ByteArray) (r3 : Int) (r4 : Int) (r5 : Bool) (w0 w : World) (hI : IsS126 w0 w g s0_0 s0_1 s0_2 s0_3) (hB : Below w0.heap.size w0 w) (h : letterpressref3_reader_is.f k s0_0 s0_1 s0_2 s0_3 a1 = some (r1, r2, r3, r4, r5)) :
    Calls Try.prog 89 #[.pointer (some ⟨g, 0, none⟩), .string a1] w fun e w' => e = .returned (.bool r1) ∧ IsS126 w0 w' g r2 r3 r4 r5 ∧ Below w0.heap.size w0 w' ∧ KeepBut w w' g none := by
  have HI0 := Aside0.mk hI
  have HK := Aside0.mk (KeepBut.refl w g none)
  have HL := Aside0.mk hB.size
  clear hI
  have HW0 := Aside0.mk hB.size
  have HB := Aside0.mk hB
  clear hB
  have H : ((letterpressref3_reader_past.f k s0_0 s0_1 s0_2 s0_3).bind fun bt131 => (if (wrap64 (bt131.2.1 + (a1.size : Int))) > (bt131.1.size : Int) then (some (false, bt131.1, bt131.2.1, bt131.2.2.1, bt131.2.2.2)) else (if 0 ≤ bt131.2.1 then (if bt131.2.1 ≤ (wrap64 (bt131.2.1 + (a1.size : Int))) then (if (wrap64 (bt131.2.1 + (a1.size : Int))) ≤ (bt131.1.size : Int) then (if (bt131.1.extract (bt131.2.1 : Int).toNat ((wrap64 (bt131.2.1 + (a1.size : Int))) : Int).toNat).toList = a1.toList then (some (true, bt131.1, wrap64 (bt131.2.1 + (a1.size : Int)), bt131.2.2.1, bt131.2.2.2)) else (some (false, bt131.1, bt131.2.1, bt131.2.2.1, bt131.2.2.2))) else (none)) else (none)) else (none)))) = some (r1, r2, r3, r4, r5) := h
  clear h
  replace H := Option.bind_eq_some_iff.mp H
  obtain ⟨⟨t131, t132, t133, t134⟩, A30, H⟩ := H
  replace H : (if (wrap64 (t132 + (a1.size : Int))) > (t131.size : Int) then (some (false, t131, t132, t133, t134)) else (if 0 ≤ t132 then (if t132 ≤ (wrap64 (t132 + (a1.size : Int))) then (if (wrap64 (t132 + (a1.size : Int))) ≤ (t131.size : Int) then (if (t131.extract (t132 : Int).toNat ((wrap64 (t132 + (a1.size : Int))) : Int).toNat).toList = a1.toList then (some (true, t131, wrap64 (t132 + (a1.size : Int)), t133, t134)) else (some (false, t131, t132, t133, t134))) else (none)) else (none)) else (none))) = some (r1, r2, r3, r4, r5) := H
  have A3 := Aside0.mk A30
  clear A30
  by_cases c4 : (wrap64 (t132 + (a1.size : Int))) > (t131.size : Int)
  · rw [if_pos c4] at H
    have c4b0 : decide ((t131.size : Int) < (wrap64 (t132 + (a1.size : Int)))) = true := decide_eq_true c4
    clear c4
    simp only [Option.some.injEq, Prod.mk.injEq] at H
    obtain ⟨rfl, rfl, rfl, rfl, rfl⟩ := H
    go_enter Try.func89, Try.ntmps89
    go_wp2_with (first | (go_at_call 83; (with_reducible refine (letterpressref3_reader_past.calls k g s0_0 s0_1 s0_2 s0_3 t131 t132 t133 t134 w0 _ ?side1 ?side2 A3.out).mono ?_); (case side1 => repeat (first | (with_reducible first | exact HI0.out | apply IsS126.alloc | apply IsS126.drewN | apply IsS126.drew | apply IsS126.set_0 | apply IsS126.set_1 | apply IsS126.set_2 | apply IsS126.set_3) | exact HI0.out)); (case side2 => repeat (first | (with_reducible first | exact HB.out | apply below_alloc | apply pw_below_drewN | apply below_drew1 | refine below_set ?_ (IsS126.ge HI0.out)) | exact HB.out)); rintro e w5 ⟨rfl, hi, hb, hk⟩; have n0_ := Aside0.mk (KeepBut.trans (by repeat (first | (with_reducible first | exact HK.out | apply KeepBut.set_ | apply keep_drewN | apply keep_drew | apply keep_alloc) | exact HK.out)) hk (.inl rfl)); have n1_ := Aside0.mk (hb); have n2_ := Aside0.mk (hi); clear HK; clear HB; clear HI0; have HK := n0_; have HB := n1_; have HI0 := n2_; clear n0_ n1_ n2_; (try clear hb); (try clear hb2); (try clear hk); (try clear hi); obtain ⟨HGz6, hgz6⟩ := HI0.out; have hcz6_0 := cellS126_0 HGz6; have hcz6_1 := cellS126_1 HGz6; have hcz6_2 := cellS126_2 HGz6; have hcz6_3 := cellS126_3 HGz6; have hfz6_0 := blk_frozen HGz6 0; have hfz6_1 := blk_frozen HGz6 1; have hfz6_2 := blk_frozen HGz6 2; have hfz6_3 := blk_frozen HGz6 3; clear HGz6 hgz6))
    repeat (go_quiet (first | (go_at_call 83; (with_reducible refine (letterpressref3_reader_past.calls k g s0_0 s0_1 s0_2 s0_3 t131 t132 t133 t134 w0 _ ?side1 ?side2 A3.out).mono ?_); (case side1 => repeat (first | (with_reducible first | exact HI0.out | apply IsS126.alloc | apply IsS126.drewN | apply IsS126.drew | apply IsS126.set_0 | apply IsS126.set_1 | apply IsS126.set_2 | apply IsS126.set_3) | exact HI0.out)); (case side2 => repeat (first | (with_reducible first | exact HB.out | apply below_alloc | apply pw_below_drewN | apply below_drew1 | refine below_set ?_ (IsS126.ge HI0.out)) | exact HB.out)); rintro e w5 ⟨rfl, hi, hb, hk⟩; have n0_ := Aside0.mk (KeepBut.trans (by repeat (first | (with_reducible first | exact HK.out | apply KeepBut.set_ | apply keep_drewN | apply keep_drew | apply keep_alloc) | exact HK.out)) hk (.inl rfl)); have n1_ := Aside0.mk (hb); have n2_ := Aside0.mk (hi); clear HK; clear HB; clear HI0; have HK := n0_; have HB := n1_; have HI0 := n2_; clear n0_ n1_ n2_; (try clear hb); (try clear hb2); (try clear hk); (try clear hi); obtain ⟨HGz6, hgz6⟩ := HI0.out; have hcz6_0 := cellS126_0 HGz6; have hcz6_1 := cellS126_1 HGz6; have hcz6_2 := cellS126_2 HGz6; have hcz6_3 := cellS126_3 HGz6; have hfz6_0 := blk_frozen HGz6 0; have hfz6_1 := blk_frozen HGz6 1; have hfz6_2 := blk_frozen HGz6 2; have hfz6_3 := blk_frozen HGz6 3; clear HGz6 hgz6)); try go_wp2_with (first | (go_at_call 83; (with_reducible refine (letterpressref3_reader_past.calls k g s0_0 s0_1 s0_2 s0_3 t131 t132 t133 t134 w0 _ ?side1 ?side2 A3.out).mono ?_); (case side1 => repeat (first | (with_reducible first | exact HI0.out | apply IsS126.alloc | apply IsS126.drewN | apply IsS126.drew | apply IsS126.set_0 | apply IsS126.set_1 | apply IsS126.set_2 | apply IsS126.set_3) | exact HI0.out)); (case side2 => repeat (first | (with_reducible first | exact HB.out | apply below_alloc | apply pw_below_drewN | apply below_drew1 | refine below_set ?_ (IsS126.ge HI0.out)) | exact HB.out)); rintro e w5 ⟨rfl, hi, hb, hk⟩; have n0_ := Aside0.mk (KeepBut.trans (by repeat (first | (with_reducible first | exact HK.out | apply KeepBut.set_ | apply keep_drewN | apply keep_drew | apply keep_alloc) | exact HK.out)) hk (.inl rfl)); have n1_ := Aside0.mk (hb); have n2_ := Aside0.mk (hi); clear HK; clear HB; clear HI0; have HK := n0_; have HB := n1_; have HI0 := n2_; clear n0_ n1_ n2_; (try clear hb); (try clear hb2); (try clear hk); (try clear hi); obtain ⟨HGz6, hgz6⟩ := HI0.out; have hcz6_0 := cellS126_0 HGz6; have hcz6_1 := cellS126_1 HGz6; have hcz6_2 := cellS126_2 HGz6; have hcz6_3 := cellS126_3 HGz6; have hfz6_0 := blk_frozen HGz6 0; have hfz6_1 := blk_frozen HGz6 1; have hfz6_2 := blk_frozen HGz6 2; have hfz6_3 := blk_frozen HGz6 3; clear HGz6 hgz6)))
    go_ret
    exact ⟨by first | rfl | (simp [errW_none, errW_some] <;> rfl) | (simp [*, errW_none, errW_some] <;> rfl), by repeat (first | (with_reducible first | exact HI0.out | apply IsS126.alloc | apply IsS126.drewN | apply IsS126.drew | apply IsS126.set_0 | apply IsS126.set_1 | apply IsS126.set_2 | apply IsS126.set_3) | exact HI0.out), by repeat (first | (with_reducible first | exact HB.out | apply below_alloc | apply pw_below_drewN | apply below_drew1 | refine below_set ?_ (IsS126.ge HI0.out)) | exact HB.out), by repeat (first | (with_reducible first | exact HK.out | apply KeepBut.set_ | apply keep_drewN | apply keep_drew | apply keep_alloc) | exact HK.out)⟩
  · rw [if_neg c4] at H
    have c4b0 : decide ((t131.size : Int) < (wrap64 (t132 + (a1.size : Int)))) = false := decide_eq_false c4
    clear c4
    by_cases c7 : 0 ≤ t132
    · rw [if_pos c7] at H
      have c7b0 := eq_true c7
      have c7b1 : decide (0 ≤ t132) = true := decide_eq_true c7
      clear c7
      by_cases c8 : t132 ≤ (wrap64 (t132 + (a1.size : Int)))
      · rw [if_pos c8] at H
        have c8b0 := eq_true c8
        have c8b1 : decide (t132 ≤ (wrap64 (t132 + (a1.size : Int)))) = true := decide_eq_true c8
        by_cases c9 : (wrap64 (t132 + (a1.size : Int))) ≤ (t131.size : Int)
        · rw [if_pos c9] at H
          have c9b0 := eq_true c9
          have c9b1 : decide ((wrap64 (t132 + (a1.size : Int))) ≤ (t131.size : Int)) = true := decide_eq_true c9
          by_cases c10 : (t131.extract (t132 : Int).toNat ((wrap64 (t132 + (a1.size : Int))) : Int).toNat).toList = a1.toList
          · rw [if_pos c10] at H
            have c10b0 : ((t131.extract (t132 : Int).toNat ((wrap64 (t132 + (a1.size : Int))) : Int).toNat).toList == a1.toList) = true := beq_iff_eq.mpr c10
            have c10b1 : ((t131.extract (t132 : Int).toNat ((wrap64 (t132 + (a1.size : Int))) : Int).toNat).toList != a1.toList) = false := bne_eq_false_iff_eq.mpr c10
            clear c10
            simp only [Option.some.injEq, Prod.mk.injEq] at H
            obtain ⟨rfl, rfl, rfl, rfl, rfl⟩ := H
            go_enter Try.func89, Try.ntmps89
            go_wp2_with (first | (go_at_call 83; (with_reducible refine (letterpressref3_reader_past.calls k g s0_0 s0_1 s0_2 s0_3 t131 t132 t133 t134 w0 _ ?side1 ?side2 A3.out).mono ?_); (case side1 => repeat (first | (with_reducible first | exact HI0.out | apply IsS126.alloc | apply IsS126.drewN | apply IsS126.drew | apply IsS126.set_0 | apply IsS126.set_1 | apply IsS126.set_2 | apply IsS126.set_3) | exact HI0.out)); (case side2 => repeat (first | (with_reducible first | exact HB.out | apply below_alloc | apply pw_below_drewN | apply below_drew1 | refine below_set ?_ (IsS126.ge HI0.out)) | exact HB.out)); rintro e w11 ⟨rfl, hi, hb, hk⟩; have n0_ := Aside0.mk (KeepBut.trans (by repeat (first | (with_reducible first | exact HK.out | apply KeepBut.set_ | apply keep_drewN | apply keep_drew | apply keep_alloc) | exact HK.out)) hk (.inl rfl)); have n1_ := Aside0.mk (hb); have n2_ := Aside0.mk (hi); clear HK; clear HB; clear HI0; have HK := n0_; have HB := n1_; have HI0 := n2_; clear n0_ n1_ n2_; (try clear hb); (try clear hb2); (try clear hk); (try clear hi); obtain ⟨HGz12, hgz12⟩ := HI0.out; have hcz12_0 := cellS126_0 HGz12; have hcz12_1 := cellS126_1 HGz12; have hcz12_2 := cellS126_2 HGz12; have hcz12_3 := cellS126_3 HGz12; have hfz12_0 := blk_frozen HGz12 0; have hfz12_1 := blk_frozen HGz12 1; have hfz12_2 := blk_frozen HGz12 2; have hfz12_3 := blk_frozen HGz12 3; clear HGz12 hgz12))
            repeat (go_quiet (first | (go_at_call 83; (with_reducible refine (letterpressref3_reader_past.calls k g s0_0 s0_1 s0_2 s0_3 t131 t132 t133 t134 w0 _ ?side1 ?side2 A3.out).mono ?_); (case side1 => repeat (first | (with_reducible first | exact HI0.out | apply IsS126.alloc | apply IsS126.drewN | apply IsS126.drew | apply IsS126.set_0 | apply IsS126.set_1 | apply IsS126.set_2 | apply IsS126.set_3) | exact HI0.out)); (case side2 => repeat (first | (with_reducible first | exact HB.out | apply below_alloc | apply pw_below_drewN | apply below_drew1 | refine below_set ?_ (IsS126.ge HI0.out)) | exact HB.out)); rintro e w11 ⟨rfl, hi, hb, hk⟩; have n0_ := Aside0.mk (KeepBut.trans (by repeat (first | (with_reducible first | exact HK.out | apply KeepBut.set_ | apply keep_drewN | apply keep_drew | apply keep_alloc) | exact HK.out)) hk (.inl rfl)); have n1_ := Aside0.mk (hb); have n2_ := Aside0.mk (hi); clear HK; clear HB; clear HI0; have HK := n0_; have HB := n1_; have HI0 := n2_; clear n0_ n1_ n2_; (try clear hb); (try clear hb2); (try clear hk); (try clear hi); obtain ⟨HGz12, hgz12⟩ := HI0.out; have hcz12_0 := cellS126_0 HGz12; have hcz12_1 := cellS126_1 HGz12; have hcz12_2 := cellS126_2 HGz12; have hcz12_3 := cellS126_3 HGz12; have hfz12_0 := blk_frozen HGz12 0; have hfz12_1 := blk_frozen HGz12 1; have hfz12_2 := blk_frozen HGz12 2; have hfz12_3 := blk_frozen HGz12 3; clear HGz12 hgz12)); try go_wp2_with (first | (go_at_call 83; (with_reducible refine (letterpressref3_reader_past.calls k g s0_0 s0_1 s0_2 s0_3 t131 t132 t133 t134 w0 _ ?side1 ?side2 A3.out).mono ?_); (case side1 => repeat (first | (with_reducible first | exact HI0.out | apply IsS126.alloc | apply IsS126.drewN | apply IsS126.drew | apply IsS126.set_0 | apply IsS126.set_1 | apply IsS126.set_2 | apply IsS126.set_3) | exact HI0.out)); (case side2 => repeat (first | (with_reducible first | exact HB.out | apply below_alloc | apply pw_below_drewN | apply below_drew1 | refine below_set ?_ (IsS126.ge HI0.out)) | exact HB.out)); rintro e w11 ⟨rfl, hi, hb, hk⟩; have n0_ := Aside0.mk (KeepBut.trans (by repeat (first | (with_reducible first | exact HK.out | apply KeepBut.set_ | apply keep_drewN | apply keep_drew | apply keep_alloc) | exact HK.out)) hk (.inl rfl)); have n1_ := Aside0.mk (hb); have n2_ := Aside0.mk (hi); clear HK; clear HB; clear HI0; have HK := n0_; have HB := n1_; have HI0 := n2_; clear n0_ n1_ n2_; (try clear hb); (try clear hb2); (try clear hk); (try clear hi); obtain ⟨HGz12, hgz12⟩ := HI0.out; have hcz12_0 := cellS126_0 HGz12; have hcz12_1 := cellS126_1 HGz12; have hcz12_2 := cellS126_2 HGz12; have hcz12_3 := cellS126_3 HGz12; have hfz12_0 := blk_frozen HGz12 0; have hfz12_1 := blk_frozen HGz12 1; have hfz12_2 := blk_frozen HGz12 2; have hfz12_3 := blk_frozen HGz12 3; clear HGz12 hgz12)))
            go_ret
            exact ⟨by first | rfl | (simp [errW_none, errW_some] <;> rfl) | (simp [*, errW_none, errW_some] <;> rfl), by repeat (first | (with_reducible first | exact HI0.out | apply IsS126.alloc | apply IsS126.drewN | apply IsS126.drew | apply IsS126.set_0 | apply IsS126.set_1 | apply IsS126.set_2 | apply IsS126.set_3) | exact HI0.out), by repeat (first | (with_reducible first | exact HB.out | apply below_alloc | apply pw_below_drewN | apply below_drew1 | refine below_set ?_ (IsS126.ge HI0.out)) | exact HB.out), by repeat (first | (with_reducible first | exact HK.out | apply KeepBut.set_ | apply keep_drewN | apply keep_drew | apply keep_alloc) | exact HK.out)⟩
          · rw [if_neg c10] at H
            have c10b0 : ((t131.extract (t132 : Int).toNat ((wrap64 (t132 + (a1.size : Int))) : Int).toNat).toList == a1.toList) = false := beq_eq_false_iff_ne.mpr c10
            have c10b1 : ((t131.extract (t132 : Int).toNat ((wrap64 (t132 + (a1.size : Int))) : Int).toNat).toList != a1.toList) = true := bne_iff_ne.mpr c10
            simp only [Option.some.injEq, Prod.mk.injEq] at H
            obtain ⟨rfl, rfl, rfl, rfl, rfl⟩ := H
            go_enter Try.func89, Try.ntmps89
            go_wp2_with (first | (go_at_call 83; (with_reducible refine (letterpressref3_reader_past.calls k g s0_0 s0_1 s0_2 s0_3 t131 t132 t133 t134 w0 _ ?side1 ?side2 A3.out).mono ?_); (case side1 => repeat (first | (with_reducible first | exact HI0.out | apply IsS126.alloc | apply IsS126.drewN | apply IsS126.drew | apply IsS126.set_0 | apply IsS126.set_1 | apply IsS126.set_2 | apply IsS126.set_3) | exact HI0.out)); (case side2 => repeat (first | (with_reducible first | exact HB.out | apply below_alloc | apply pw_below_drewN | apply below_drew1 | refine below_set ?_ (IsS126.ge HI0.out)) | exact HB.out)); rintro e w13 ⟨rfl, hi, hb, hk⟩; have n0_ := Aside0.mk (KeepBut.trans (by repeat (first | (with_reducible first | exact HK.out | apply KeepBut.set_ | apply keep_drewN | apply keep_drew | apply keep_alloc) | exact HK.out)) hk (.inl rfl)); have n1_ := Aside0.mk (hb); have n2_ := Aside0.mk (hi); clear HK; clear HB; clear HI0; have HK := n0_; have HB := n1_; have HI0 := n2_; clear n0_ n1_ n2_; (try clear hb); (try clear hb2); (try clear hk); (try clear hi); obtain ⟨HGz14, hgz14⟩ := HI0.out; have hcz14_0 := cellS126_0 HGz14; have hcz14_1 := cellS126_1 HGz14; have hcz14_2 := cellS126_2 HGz14; have hcz14_3 := cellS126_3 HGz14; have hfz14_0 := blk_frozen HGz14 0; have hfz14_1 := blk_frozen HGz14 1; have hfz14_2 := blk_frozen HGz14 2; have hfz14_3 := blk_frozen HGz14 3; clear HGz14 hgz14))
            repeat (go_quiet (first | (go_at_call 83; (with_reducible refine (letterpressref3_reader_past.calls k g s0_0 s0_1 s0_2 s0_3 t131 t132 t133 t134 w0 _ ?side1 ?side2 A3.out).mono ?_); (case side1 => repeat (first | (with_reducible first | exact HI0.out | apply IsS126.alloc | apply IsS126.drewN | apply IsS126.drew | apply IsS126.set_0 | apply IsS126.set_1 | apply IsS126.set_2 | apply IsS126.set_3) | exact HI0.out)); (case side2 => repeat (first | (with_reducible first | exact HB.out | apply below_alloc | apply pw_below_drewN | apply below_drew1 | refine below_set ?_ (IsS126.ge HI0.out)) | exact HB.out)); rintro e w13 ⟨rfl, hi, hb, hk⟩; have n0_ := Aside0.mk (KeepBut.trans (by repeat (first | (with_reducible first | exact HK.out | apply KeepBut.set_ | apply keep_drewN | apply keep_drew | apply keep_alloc) | exact HK.out)) hk (.inl rfl)); have n1_ := Aside0.mk (hb); have n2_ := Aside0.mk (hi); clear HK; clear HB; clear HI0; have HK := n0_; have HB := n1_; have HI0 := n2_; clear n0_ n1_ n2_; (try clear hb); (try clear hb2); (try clear hk); (try clear hi); obtain ⟨HGz14, hgz14⟩ := HI0.out; have hcz14_0 := cellS126_0 HGz14; have hcz14_1 := cellS126_1 HGz14; have hcz14_2 := cellS126_2 HGz14; have hcz14_3 := cellS126_3 HGz14; have hfz14_0 := blk_frozen HGz14 0; have hfz14_1 := blk_frozen HGz14 1; have hfz14_2 := blk_frozen HGz14 2; have hfz14_3 := blk_frozen HGz14 3; clear HGz14 hgz14)); try go_wp2_with (first | (go_at_call 83; (with_reducible refine (letterpressref3_reader_past.calls k g s0_0 s0_1 s0_2 s0_3 t131 t132 t133 t134 w0 _ ?side1 ?side2 A3.out).mono ?_); (case side1 => repeat (first | (with_reducible first | exact HI0.out | apply IsS126.alloc | apply IsS126.drewN | apply IsS126.drew | apply IsS126.set_0 | apply IsS126.set_1 | apply IsS126.set_2 | apply IsS126.set_3) | exact HI0.out)); (case side2 => repeat (first | (with_reducible first | exact HB.out | apply below_alloc | apply pw_below_drewN | apply below_drew1 | refine below_set ?_ (IsS126.ge HI0.out)) | exact HB.out)); rintro e w13 ⟨rfl, hi, hb, hk⟩; have n0_ := Aside0.mk (KeepBut.trans (by repeat (first | (with_reducible first | exact HK.out | apply KeepBut.set_ | apply keep_drewN | apply keep_drew | apply keep_alloc) | exact HK.out)) hk (.inl rfl)); have n1_ := Aside0.mk (hb); have n2_ := Aside0.mk (hi); clear HK; clear HB; clear HI0; have HK := n0_; have HB := n1_; have HI0 := n2_; clear n0_ n1_ n2_; (try clear hb); (try clear hb2); (try clear hk); (try clear hi); obtain ⟨HGz14, hgz14⟩ := HI0.out; have hcz14_0 := cellS126_0 HGz14; have hcz14_1 := cellS126_1 HGz14; have hcz14_2 := cellS126_2 HGz14; have hcz14_3 := cellS126_3 HGz14; have hfz14_0 := blk_frozen HGz14 0; have hfz14_1 := blk_frozen HGz14 1; have hfz14_2 := blk_frozen HGz14 2; have hfz14_3 := blk_frozen HGz14 3; clear HGz14 hgz14)))
            go_ret
            exact ⟨by first | rfl | (simp [errW_none, errW_some] <;> rfl) | (simp [*, errW_none, errW_some] <;> rfl), by repeat (first | (with_reducible first | exact HI0.out | apply IsS126.alloc | apply IsS126.drewN | apply IsS126.drew | apply IsS126.set_0 | apply IsS126.set_1 | apply IsS126.set_2 | apply IsS126.set_3) | exact HI0.out), by repeat (first | (with_reducible first | exact HB.out | apply below_alloc | apply pw_below_drewN | apply below_drew1 | refine below_set ?_ (IsS126.ge HI0.out)) | exact HB.out), by repeat (first | (with_reducible first | exact HK.out | apply KeepBut.set_ | apply keep_drewN | apply keep_drew | apply keep_alloc) | exact HK.out)⟩
        · rw [if_neg c9] at H
          exact absurd H (by simp)
      · rw [if_neg c8] at H
        exact absurd H (by simp)
    · rw [if_neg c7] at H
      exact absurd H (by simp)

/-! ### letterpressref3_reader_next: function 88 -/
def letterpressref3_reader_next.l0 : Nat → Int → Int → ByteArray → Int → Int → Bool → Option (Int × ByteArray × Int × Int × Bool)
  | 0, _, _, _, _, _, _ => none
  | k + 1, x1, x5, x1000, x1001, x1002, x1003 => if x5 ≤ 11 then ((letterpressref3_sign.f x5).bind fun bt135 => (if bt135.2 = x1 then (if x1003 = true then (letterpressref3_reader_next.l0 k x1 (wrap64 (x5 + 1)) x1000 x1001 x1002 x1003) else ((letterpressref3_reader_is.f k x1000 x1001 x1002 x1003 bt135.1).bind fun bt137 => (if bt137.1 = true then (some (x5, bt137.2.1, bt137.2.2.1, bt137.2.2.2.1, bt137.2.2.2.2)) else (letterpressref3_reader_next.l0 k x1 (wrap64 (x5 + 1)) bt137.2.1 bt137.2.2.1 bt137.2.2.2.1 bt137.2.2.2.2)))) else (letterpressref3_reader_next.l0 k x1 (wrap64 (x5 + 1)) x1000 x1001 x1002 x1003))) else (some (0, x1000, x1001, x1002, x1003))
def letterpressref3_reader_next.f (k : Nat) (s0_0 : ByteArray) (s0_1 : Int) (s0_2 : Int) (s0_3 : Bool) (a1 : Int) : Option (Int × ByteArray × Int × Int × Bool) := letterpressref3_reader_next.l0 k a1 5 s0_0 s0_1 s0_2 s0_3
theorem letterpressref3_reader_next.mono_l : ∀ k, (∀ y0 y1 y2 y3 y4 y5, LeO (letterpressref3_reader_next.l0 k y0 y1 y2 y3 y4 y5) (letterpressref3_reader_next.l0 (k + 1) y0 y1 y2 y3 y4 y5))
  | 0 => fun _ _ _ _ _ _ r h => by simp [letterpressref3_reader_next.l0] at h
  | k + 1 => by
    have ih0 := letterpressref3_reader_next.mono_l k
    · intro y0 y1 y2 y3 y4 y5
      unfold letterpressref3_reader_next.l0
      repeat' first
      | (with_reducible exact ih0 _ _ _ _ _ _)
      | (with_reducible exact letterpressref3_reader_is.mono _ _ _ _ _ _)
      | (with_reducible exact LeO.refl _)
      | (with_reducible exact LeO.none _)
      | (with_reducible refine LeO.ite ?_ ?_)
      | (with_reducible refine LeO.bind ?_ (fun _ => ?_))
      | exact ih0 _ _ _ _ _ _
      | exact letterpressref3_reader_is.mono _ _ _ _ _ _
      | exact LeO.none _
      | refine LeO.ite ?_ ?_
      | refine LeO.bind ?_ (fun _ => ?_)
theorem letterpressref3_reader_next.mono : ∀ a0 a1 a2 a3 a4 k, LeO (letterpressref3_reader_next.f k a0 a1 a2 a3 a4) (letterpressref3_reader_next.f (k + 1) a0 a1 a2 a3 a4) := by
  intro a0 a1 a2 a3 a4 k
  have ih0 := letterpressref3_reader_next.mono_l k
  unfold letterpressref3_reader_next.f
  repeat' first
      | (with_reducible exact ih0 _ _ _ _ _ _)
      | (with_reducible exact letterpressref3_reader_is.mono _ _ _ _ _ _)
      | (with_reducible exact LeO.refl _)
      | (with_reducible exact LeO.none _)
      | (with_reducible refine LeO.ite ?_ ?_)
      | (with_reducible refine LeO.bind ?_ (fun _ => ?_))
      | exact ih0 _ _ _ _ _ _
      | exact letterpressref3_reader_is.mono _ _ _ _ _ _
      | exact LeO.none _
      | refine LeO.ite ?_ ?_
      | refine LeO.bind ?_ (fun _ => ?_)
set_option maxHeartbeats 8000000 in
set_option maxRecDepth 100000 in
theorem letterpressref3_reader_next.calls (k : Nat) (g : Nat) (s0_0 : ByteArray) (s0_1 : Int) (s0_2 : Int) (s0_3 : Bool) (a1 : Int) (r1 : Int) (r2 : ByteArray) (r3 : Int) (r4 : Int) (r5 : Bool) (w0 w : World) (hI : IsS126 w0 w g s0_0 s0_1 s0_2 s0_3) (hB : Below w0.heap.size w0 w) (h : letterpressref3_reader_next.f k s0_0 s0_1 s0_2 s0_3 a1 = some (r1, r2, r3, r4, r5)) :
    Calls Try.prog 88 #[.pointer (some ⟨g, 0, none⟩), .int .i64 a1] w fun e w' => e = .returned (.int .i64 r1) ∧ IsS126 w0 w' g r2 r3 r4 r5 ∧ Below w0.heap.size w0 w' ∧ KeepBut w w' g none := by
  have HI0 := Aside0.mk hI
  have HK := Aside0.mk (KeepBut.refl w g none)
  have HL := Aside0.mk hB.size
  clear hI
  have HW0 := Aside0.mk hB.size
  have HB := Aside0.mk hB
  clear hB
  have H : (letterpressref3_reader_next.l0 k a1 5 s0_0 s0_1 s0_2 s0_3) = some (r1, r2, r3, r4, r5) := h
  clear h
  have H' := Aside0.mk H
  clear H
  go_enter Try.func88, Try.ntmps88
  go_wp2
  go_loopg [5] k (fun kq v5 w' => ∃ (x5_1 : Int) (x1000_1 : ByteArray) (x1001_1 : Int) (x1002_1 : Int) (x1003_1 : Bool), v5 = .int .i64 x5_1 ∧ Aside0 (letterpressref3_reader_next.l0 kq a1 x5_1 x1000_1 x1001_1 x1002_1 x1003_1 = some (r1, r2, r3, r4, r5)) ∧ Aside0 (kq ≤ k) ∧ Aside0 (IsS126 w0 w' g x1000_1 x1001_1 x1002_1 x1003_1) ∧ Aside0 (KeepBut w w' g none) ∧ Aside0 (Below w0.heap.size w0 w'))
  case atStart => exact ⟨(5), (s0_0), (s0_1), (s0_2), (s0_3), (by first | rfl | (simp; done) | (simp [*]; done)), H', ⟨Nat.le_refl _⟩, ⟨by repeat (first | (with_reducible first | exact HI0.out | apply IsS126.alloc | apply IsS126.drewN | apply IsS126.drew | apply IsS126.set_0 | apply IsS126.set_1 | apply IsS126.set_2 | apply IsS126.set_3) | exact HI0.out)⟩, ⟨by repeat (first | (with_reducible first | exact HK.out | apply KeepBut.set_ | apply keep_drewN | apply keep_drew | apply keep_alloc) | exact HK.out)⟩, ⟨by repeat (first | (with_reducible first | exact HB.out | apply below_alloc | apply pw_below_drewN | apply below_drew1 | refine below_set ?_ (IsS126.ge HI0.out)) | exact HB.out)⟩⟩
  case round =>
    clear H'
    try clear p2
    obtain ⟨x5_1, x1000_1, x1001_1, x1002_1, x1003_1, rfl, HA, HK1, HI0, HK, HB⟩ := hrel
    cases gk with
    | zero => exact absurd HA.out (by simp [letterpressref3_reader_next.l0])
    | succ k1 =>
      have H := HA.out
      clear HA
      simp only [letterpressref3_reader_next.l0] at H
      by_cases c3 : x5_1 ≤ 11
      · rw [if_pos c3] at H
        have c3b0 : decide (x5_1 ≤ 11) = true := decide_eq_true c3
        clear c3
        replace H := Option.bind_eq_some_iff.mp H
        obtain ⟨⟨t135, t136⟩, A40, H⟩ := H
        replace H : (if t136 = a1 then (if x1003_1 = true then (letterpressref3_reader_next.l0 k1 a1 (wrap64 (x5_1 + 1)) x1000_1 x1001_1 x1002_1 x1003_1) else ((letterpressref3_reader_is.f k1 x1000_1 x1001_1 x1002_1 x1003_1 t135).bind fun bt137 => (if bt137.1 = true then (some (x5_1, bt137.2.1, bt137.2.2.1, bt137.2.2.2.1, bt137.2.2.2.2)) else (letterpressref3_reader_next.l0 k1 a1 (wrap64 (x5_1 + 1)) bt137.2.1 bt137.2.2.1 bt137.2.2.2.1 bt137.2.2.2.2)))) else (letterpressref3_reader_next.l0 k1 a1 (wrap64 (x5_1 + 1)) x1000_1 x1001_1 x1002_1 x1003_1)) = some (r1, r2, r3, r4, r5) := H
        have A4 := Aside0.mk A40
        clear A40
        by_cases c5 : t136 = a1
        · rw [if_pos c5] at H
          have c5b0 : (t136 == a1) = true := beq_iff_eq.mpr c5
          have c5b1 : (t136 != a1) = false := bne_eq_false_iff_eq.mpr c5
          clear c5
          by_cases c6 : x1003_1 = true
          · subst c6
            have H1 : (letterpressref3_reader_next.l0 k1 a1 (wrap64 (x5_1 + 1)) x1000_1 x1001_1 x1002_1 true) = some (r1, r2, r3, r4, r5) := by rw [if_pos rfl] at H; exact H
            clear H
            have H := H1
            clear H1
            have H' := Aside0.mk H
            clear H
            go_wp2_with (first | ((with_reducible refine gate_callee (f := 74) rfl ?_); refine goesL_ (some 14) rfl rfl Try.func74 (by kernel_rfl) rfl #[.int .i64 x5_1] rfl (by (try simp only [List.map_toArray, List.map_cons, List.map_nil]); first | done | rfl | (simp only [List.length_drop, List.length_take]; rfl)) ?_; (with_reducible refine (letterpressref3_sign.calls x5_1 t135 t136 _ A4.out).mono ?_); rintro e w' ⟨rfl, ⟨nd, rfl⟩⟩; refine ⟨_, rfl, ?_⟩; obtain ⟨HGz7, hgz7⟩ := HI0.out; have hcz7_0 := cellS126_0 HGz7; have hcz7_1 := cellS126_1 HGz7; have hcz7_2 := cellS126_2 HGz7; have hcz7_3 := cellS126_3 HGz7; have hfz7_0 := blk_frozen HGz7 0; have hfz7_1 := blk_frozen HGz7 1; have hfz7_2 := blk_frozen HGz7 2; have hfz7_3 := blk_frozen HGz7 3; clear HGz7 hgz7))
            go_roundg k1
            case measure => have := HK1.out; omega
            case rel => exact ⟨(wrap64 (x5_1 + 1)), (x1000_1), (x1001_1), (x1002_1), (true), (by first | rfl | (simp; done) | (simp [*]; done)), H', ⟨by have := HK1.out; omega⟩, ⟨by repeat (first | (with_reducible first | exact HI0.out | apply IsS126.alloc | apply IsS126.drewN | apply IsS126.drew | apply IsS126.set_0 | apply IsS126.set_1 | apply IsS126.set_2 | apply IsS126.set_3) | exact HI0.out)⟩, ⟨by repeat (first | (with_reducible first | exact HK.out | apply KeepBut.set_ | apply keep_drewN | apply keep_drew | apply keep_alloc) | exact HK.out)⟩, ⟨by repeat (first | (with_reducible first | exact HB.out | apply below_alloc | apply pw_below_drewN | apply below_drew1 | refine below_set ?_ (IsS126.ge HI0.out)) | exact HB.out)⟩⟩
          · replace c6 := Bool.eq_false_iff.mpr c6
            subst c6
            have H1 : ((letterpressref3_reader_is.f k1 x1000_1 x1001_1 x1002_1 false t135).bind fun bt137 => (if bt137.1 = true then (some (x5_1, bt137.2.1, bt137.2.2.1, bt137.2.2.2.1, bt137.2.2.2.2)) else (letterpressref3_reader_next.l0 k1 a1 (wrap64 (x5_1 + 1)) bt137.2.1 bt137.2.2.1 bt137.2.2.2.1 bt137.2.2.2.2))) = some (r1, r2, r3, r4, r5) := by rw [if_neg (show ¬ (false = true) by decide)] at H; exact H
            clear H
            have H := H1
            clear H1
            replace H := Option.bind_eq_some_iff.mp H
            obtain ⟨⟨t137, t138, t139, t140, t141⟩, A80, H⟩ := H
            replace H : (if t137 = true then (some (x5_1, t138, t139, t140, t141)) else (letterpressref3_reader_next.l0 k1 a1 (wrap64 (x5_1 + 1)) t138 t139 t140 t141)) = some (r1, r2, r3, r4, r5) := H
            have A8 := Aside0.mk A80
            clear A80
            by_cases c9 : t137 = true
            · subst c9
              have H1 : (some (x5_1, t138, t139, t140, t141)) = some (r1, r2, r3, r4, r5) := by rw [if_pos rfl] at H; exact H
              clear H
              have H := H1
              clear H1
              simp only [Option.some.injEq, Prod.mk.injEq] at H
              obtain ⟨rfl, rfl, rfl, rfl, rfl⟩ := H
              go_wp2_with (first | ((with_reducible refine gate_callee (f := 74) rfl ?_); refine goesL_ (some 14) rfl rfl Try.func74 (by kernel_rfl) rfl #[.int .i64 x5_1] rfl (by (try simp only [List.map_toArray, List.map_cons, List.map_nil]); first | done | rfl | (simp only [List.length_drop, List.length_take]; rfl)) ?_; (with_reducible refine (letterpressref3_sign.calls x5_1 t135 t136 _ A4.out).mono ?_); rintro e w' ⟨rfl, ⟨nd, rfl⟩⟩; refine ⟨_, rfl, ?_⟩; obtain ⟨HGz10, hgz10⟩ := HI0.out; have hcz10_0 := cellS126_0 HGz10; have hcz10_1 := cellS126_1 HGz10; have hcz10_2 := cellS126_2 HGz10; have hcz10_3 := cellS126_3 HGz10; have hfz10_0 := blk_frozen HGz10 0; have hfz10_1 := blk_frozen HGz10 1; have hfz10_2 := blk_frozen HGz10 2; have hfz10_3 := blk_frozen HGz10 3; clear HGz10 hgz10) | (go_at_call 89; (with_reducible refine (letterpressref3_reader_is.calls k1 g x1000_1 x1001_1 x1002_1 false t135 true t138 t139 t140 t141 w0 _ ?side1 ?side2 A8.out).mono ?_); (case side1 => repeat (first | (with_reducible first | exact HI0.out | apply IsS126.alloc | apply IsS126.drewN | apply IsS126.drew | apply IsS126.set_0 | apply IsS126.set_1 | apply IsS126.set_2 | apply IsS126.set_3) | exact HI0.out)); (case side2 => repeat (first | (with_reducible first | exact HB.out | apply below_alloc | apply pw_below_drewN | apply below_drew1 | refine below_set ?_ (IsS126.ge HI0.out)) | exact HB.out)); rintro e w11 ⟨rfl, hi, hb, hk⟩; have n0_ := Aside0.mk (KeepBut.trans (by repeat (first | (with_reducible first | exact HK.out | apply KeepBut.set_ | apply keep_drewN | apply keep_drew | apply keep_alloc) | exact HK.out)) hk (.inl rfl)); have n1_ := Aside0.mk (hb); have n2_ := Aside0.mk (hi); clear HK; clear HB; clear HI0; have HK := n0_; have HB := n1_; have HI0 := n2_; clear n0_ n1_ n2_; (try clear hb); (try clear hb2); (try clear hk); (try clear hi)))
              go_ret
              exact ⟨by first | rfl | (simp [errW_none, errW_some] <;> rfl) | (simp [*, errW_none, errW_some] <;> rfl), by repeat (first | (with_reducible first | exact HI0.out | apply IsS126.alloc | apply IsS126.drewN | apply IsS126.drew | apply IsS126.set_0 | apply IsS126.set_1 | apply IsS126.set_2 | apply IsS126.set_3) | exact HI0.out), by repeat (first | (with_reducible first | exact HB.out | apply below_alloc | apply pw_below_drewN | apply below_drew1 | refine below_set ?_ (IsS126.ge HI0.out)) | exact HB.out), by repeat (first | (with_reducible first | exact HK.out | apply KeepBut.set_ | apply keep_drewN | apply keep_drew | apply keep_alloc) | exact HK.out)⟩
            · replace c9 := Bool.eq_false_iff.mpr c9
              subst c9
              have H1 : (letterpressref3_reader_next.l0 k1 a1 (wrap64 (x5_1 + 1)) t138 t139 t140 t141) = some (r1, r2, r3, r4, r5) := by rw [if_neg (show ¬ (false = true) by decide)] at H; exact H
              clear H
              have H := H1
              clear H1
              have H' := Aside0.mk H
              clear H
              go_wp2_with (first | ((with_reducible refine gate_callee (f := 74) rfl ?_); refine goesL_ (some 14) rfl rfl Try.func74 (by kernel_rfl) rfl #[.int .i64 x5_1] rfl (by (try simp only [List.map_toArray, List.map_cons, List.map_nil]); first | done | rfl | (simp only [List.length_drop, List.length_take]; rfl)) ?_; (with_reducible refine (letterpressref3_sign.calls x5_1 t135 t136 _ A4.out).mono ?_); rintro e w' ⟨rfl, ⟨nd, rfl⟩⟩; refine ⟨_, rfl, ?_⟩; obtain ⟨HGz12, hgz12⟩ := HI0.out; have hcz12_0 := cellS126_0 HGz12; have hcz12_1 := cellS126_1 HGz12; have hcz12_2 := cellS126_2 HGz12; have hcz12_3 := cellS126_3 HGz12; have hfz12_0 := blk_frozen HGz12 0; have hfz12_1 := blk_frozen HGz12 1; have hfz12_2 := blk_frozen HGz12 2; have hfz12_3 := blk_frozen HGz12 3; clear HGz12 hgz12) | (go_at_call 89; (with_reducible refine (letterpressref3_reader_is.calls k1 g x1000_1 x1001_1 x1002_1 false t135 false t138 t139 t140 t141 w0 _ ?side1 ?side2 A8.out).mono ?_); (case side1 => repeat (first | (with_reducible first | exact HI0.out | apply IsS126.alloc | apply IsS126.drewN | apply IsS126.drew | apply IsS126.set_0 | apply IsS126.set_1 | apply IsS126.set_2 | apply IsS126.set_3) | exact HI0.out)); (case side2 => repeat (first | (with_reducible first | exact HB.out | apply below_alloc | apply pw_below_drewN | apply below_drew1 | refine below_set ?_ (IsS126.ge HI0.out)) | exact HB.out)); rintro e w13 ⟨rfl, hi, hb, hk⟩; have n0_ := Aside0.mk (KeepBut.trans (by repeat (first | (with_reducible first | exact HK.out | apply KeepBut.set_ | apply keep_drewN | apply keep_drew | apply keep_alloc) | exact HK.out)) hk (.inl rfl)); have n1_ := Aside0.mk (hb); have n2_ := Aside0.mk (hi); clear HK; clear HB; clear HI0; have HK := n0_; have HB := n1_; have HI0 := n2_; clear n0_ n1_ n2_; (try clear hb); (try clear hb2); (try clear hk); (try clear hi)))
              go_roundg k1
              case measure => have := HK1.out; omega
              case rel => exact ⟨(wrap64 (x5_1 + 1)), (t138), (t139), (t140), (t141), (by first | rfl | (simp; done) | (simp [*]; done)), H', ⟨by have := HK1.out; omega⟩, ⟨by repeat (first | (with_reducible first | exact HI0.out | apply IsS126.alloc | apply IsS126.drewN | apply IsS126.drew | apply IsS126.set_0 | apply IsS126.set_1 | apply IsS126.set_2 | apply IsS126.set_3) | exact HI0.out)⟩, ⟨by repeat (first | (with_reducible first | exact HK.out | apply KeepBut.set_ | apply keep_drewN | apply keep_drew | apply keep_alloc) | exact HK.out)⟩, ⟨by repeat (first | (with_reducible first | exact HB.out | apply below_alloc | apply pw_below_drewN | apply below_drew1 | refine below_set ?_ (IsS126.ge HI0.out)) | exact HB.out)⟩⟩
        · rw [if_neg c5] at H
          have c5b0 : (t136 == a1) = false := beq_eq_false_iff_ne.mpr c5
          have c5b1 : (t136 != a1) = true := bne_iff_ne.mpr c5
          have H' := Aside0.mk H
          clear H
          go_wp2_with (first | ((with_reducible refine gate_callee (f := 74) rfl ?_); refine goesL_ (some 14) rfl rfl Try.func74 (by kernel_rfl) rfl #[.int .i64 x5_1] rfl (by (try simp only [List.map_toArray, List.map_cons, List.map_nil]); first | done | rfl | (simp only [List.length_drop, List.length_take]; rfl)) ?_; (with_reducible refine (letterpressref3_sign.calls x5_1 t135 t136 _ A4.out).mono ?_); rintro e w' ⟨rfl, ⟨nd, rfl⟩⟩; refine ⟨_, rfl, ?_⟩))
          go_roundg k1
          case measure => have := HK1.out; omega
          case rel => exact ⟨(wrap64 (x5_1 + 1)), (x1000_1), (x1001_1), (x1002_1), (x1003_1), (by first | rfl | (simp; done) | (simp [*]; done)), H', ⟨by have := HK1.out; omega⟩, ⟨by repeat (first | (with_reducible first | exact HI0.out | apply IsS126.alloc | apply IsS126.drewN | apply IsS126.drew | apply IsS126.set_0 | apply IsS126.set_1 | apply IsS126.set_2 | apply IsS126.set_3) | exact HI0.out)⟩, ⟨by repeat (first | (with_reducible first | exact HK.out | apply KeepBut.set_ | apply keep_drewN | apply keep_drew | apply keep_alloc) | exact HK.out)⟩, ⟨by repeat (first | (with_reducible first | exact HB.out | apply below_alloc | apply pw_below_drewN | apply below_drew1 | refine below_set ?_ (IsS126.ge HI0.out)) | exact HB.out)⟩⟩
      · rw [if_neg c3] at H
        have c3b0 : decide (x5_1 ≤ 11) = false := decide_eq_false c3
        clear c3
        simp only [Option.some.injEq, Prod.mk.injEq] at H
        obtain ⟨rfl, rfl, rfl, rfl, rfl⟩ := H
        go_wp2
        go_ret
        exact ⟨by first | rfl | (simp [errW_none, errW_some] <;> rfl) | (simp [*, errW_none, errW_some] <;> rfl), by repeat (first | (with_reducible first | exact HI0.out | apply IsS126.alloc | apply IsS126.drewN | apply IsS126.drew | apply IsS126.set_0 | apply IsS126.set_1 | apply IsS126.set_2 | apply IsS126.set_3) | exact HI0.out), by repeat (first | (with_reducible first | exact HB.out | apply below_alloc | apply pw_below_drewN | apply below_drew1 | refine below_set ?_ (IsS126.ge HI0.out)) | exact HB.out), by repeat (first | (with_reducible first | exact HK.out | apply KeepBut.set_ | apply keep_drewN | apply keep_drew | apply keep_alloc) | exact HK.out)⟩

/-! ### letterpressref3_digit: function 92 -/
def letterpressref3_digit.j0 : Nat → Int → Int → Bool → Option (Int)
  | 0, _, _, _ => none
  | k + 1, x0, x1, x5 => if x5 = true then (some ((x0 - 48) % 256)) else (if x1 = 16 then (if x0 ≥ 97 then (if x0 ≤ 102 then (some (((x0 - 97) % 256) + 10)) else (some (-1))) else (some (-1))) else (some (-1)))
def letterpressref3_digit.f (k : Nat) (a0 : Int) (a1 : Int) : Option (Int) := if a0 ≥ 48 then (letterpressref3_digit.j0 k a0 a1 (decide (a0 ≤ 57))) else (letterpressref3_digit.j0 k a0 a1 false)
theorem letterpressref3_digit.mono_l : ∀ k, (∀ y0 y1 y2, LeO (letterpressref3_digit.j0 k y0 y1 y2) (letterpressref3_digit.j0 (k + 1) y0 y1 y2))
  | 0 => fun _ _ _ r h => by simp [letterpressref3_digit.j0] at h
  | k + 1 => by
    have ih0 := letterpressref3_digit.mono_l k
    · intro y0 y1 y2
      unfold letterpressref3_digit.j0
      repeat' first
      | (with_reducible exact ih0 _ _ _)
      | (with_reducible exact LeO.refl _)
      | (with_reducible exact LeO.none _)
      | (with_reducible refine LeO.ite ?_ ?_)
      | (with_reducible refine LeO.bind ?_ (fun _ => ?_))
      | exact ih0 _ _ _
      | exact LeO.none _
      | refine LeO.ite ?_ ?_
      | refine LeO.bind ?_ (fun _ => ?_)
theorem letterpressref3_digit.mono : ∀ a0 a1 k, LeO (letterpressref3_digit.f k a0 a1) (letterpressref3_digit.f (k + 1) a0 a1) := by
  intro a0 a1 k
  have ih0 := letterpressref3_digit.mono_l k
  unfold letterpressref3_digit.f
  repeat' first
      | (with_reducible exact ih0 _ _ _)
      | (with_reducible exact LeO.refl _)
      | (with_reducible exact LeO.none _)
      | (with_reducible refine LeO.ite ?_ ?_)
      | (with_reducible refine LeO.bind ?_ (fun _ => ?_))
      | exact ih0 _ _ _
      | exact LeO.none _
      | refine LeO.ite ?_ ?_
      | refine LeO.bind ?_ (fun _ => ?_)
set_option maxHeartbeats 8000000 in
set_option maxRecDepth 100000 in
theorem letterpressref3_digit.calls (k : Nat) (a0 : Int) (a1 : Int) (r : Int) (w : World) (h : letterpressref3_digit.f k a0 a1 = some r) :
    Calls Try.prog 92 #[.int .u8 a0, .int .i64 a1] w fun e w' => e = .returned (.int .i64 r) ∧ Drawn0 w w' := by
  have H : (if a0 ≥ 48 then (letterpressref3_digit.j0 k a0 a1 (decide (a0 ≤ 57))) else (letterpressref3_digit.j0 k a0 a1 false)) = some r := h
  clear h
  have HC3 := Aside0.mk H
  clear H
  go_enter Try.func92, Try.ntmps92
  go_upto_region 1 with (fail)
  go_cut [5] (fun v5 wc => ∃ (kq : Nat) (x5_2 : Bool), v5 = .bool x5_2 ∧ Aside0 (letterpressref3_digit.j0 kq a0 a1 x5_2 = some r) ∧ Aside0 (kq ≤ k) ∧ Drawn0 w wc)
  case first =>
    have H := HC3.out
    clear HC3
    by_cases c4 : a0 ≥ 48
    · rw [if_pos c4] at H
      have c4b0 : decide (48 ≤ a0) = true := decide_eq_true c4
      clear c4
      (first | rw [c4b0] | (simp only [i64_w, i32_w]; rw [c4b0]) | skip)
      have H' := Aside0.mk H
      clear H
      go_wp2
      go_meet
      case rel => exact ⟨_, (decide (a0 ≤ 57)), (by first | rfl | (simp; done) | (simp [*]; done)), H', ⟨by first | omega | exact Nat.le_refl _⟩, by repeat (first | exact Drawn0.refl _ | apply Drawn0.step)⟩
    · rw [if_neg c4] at H
      have c4b0 : decide (48 ≤ a0) = false := decide_eq_false c4
      clear c4
      (first | rw [c4b0] | (simp only [i64_w, i32_w]; rw [c4b0]) | skip)
      have H' := Aside0.mk H
      clear H
      go_wp2
      go_meet
      case rel => exact ⟨_, (false), (by first | rfl | (simp; done) | (simp [*]; done)), H', ⟨by first | omega | exact Nat.le_refl _⟩, by repeat (first | exact Drawn0.refl _ | apply Drawn0.step)⟩
  case rest =>
    clear HC3
    try clear p2
    try clear c4
    try clear c4b0
    obtain ⟨kq, x5_2, rfl, HA, HJ2, ⟨mc2, rfl⟩⟩ := hcut
    cases kq with
    | zero => exact absurd HA.out (by simp [letterpressref3_digit.j0])
    | succ kj2 =>
      have H := HA.out
      clear HA
      simp only [letterpressref3_digit.j0] at H
      by_cases c5 : x5_2 = true
      · subst c5
        have H1 : (some ((a0 - 48) % 256)) = some r := by rw [if_pos rfl] at H; exact H
        clear H
        have H := H1
        clear H1
        obtain rfl := Option.some.inj H
        go_wp2
        go_ret
        exact ⟨by first | rfl | (simp; done) | (simp [*]; done), by repeat (first | exact Drawn0.refl _ | apply Drawn0.step)⟩
      · replace c5 := Bool.eq_false_iff.mpr c5
        subst c5
        have H1 : (if a1 = 16 then (if a0 ≥ 97 then (if a0 ≤ 102 then (some (((a0 - 97) % 256) + 10)) else (some (-1))) else (some (-1))) else (some (-1))) = some r := by rw [if_neg (show ¬ (false = true) by decide)] at H; exact H
        clear H
        have H := H1
        clear H1
        by_cases c6 : a1 = 16
        · rw [if_pos c6] at H
          have c6b0 : (a1 == 16) = true := beq_iff_eq.mpr c6
          have c6b1 : (a1 != 16) = false := bne_eq_false_iff_eq.mpr c6
          clear c6
          by_cases c7 : a0 ≥ 97
          · rw [if_pos c7] at H
            have c7b0 : decide (97 ≤ a0) = true := decide_eq_true c7
            clear c7
            by_cases c8 : a0 ≤ 102
            · rw [if_pos c8] at H
              have c8b0 : decide (a0 ≤ 102) = true := decide_eq_true c8
              clear c8
              obtain rfl := Option.some.inj H
              go_wp2
              go_ret
              exact ⟨by first | rfl | (simp; done) | (simp [*]; done), by repeat (first | exact Drawn0.refl _ | apply Drawn0.step)⟩
            · rw [if_neg c8] at H
              have c8b0 : decide (a0 ≤ 102) = false := decide_eq_false c8
              clear c8
              obtain rfl := Option.some.inj H
              go_wp2
              go_ret
              exact ⟨by first | rfl | (simp; done) | (simp [*]; done), by repeat (first | exact Drawn0.refl _ | apply Drawn0.step)⟩
          · rw [if_neg c7] at H
            have c7b0 : decide (97 ≤ a0) = false := decide_eq_false c7
            clear c7
            obtain rfl := Option.some.inj H
            go_wp2
            go_ret
            exact ⟨by first | rfl | (simp; done) | (simp [*]; done), by repeat (first | exact Drawn0.refl _ | apply Drawn0.step)⟩
        · rw [if_neg c6] at H
          have c6b0 : (a1 == 16) = false := beq_eq_false_iff_ne.mpr c6
          have c6b1 : (a1 != 16) = true := bne_iff_ne.mpr c6
          obtain rfl := Option.some.inj H
          go_wp2
          go_ret
          exact ⟨by first | rfl | (simp; done) | (simp [*]; done), by repeat (first | exact Drawn0.refl _ | apply Drawn0.step)⟩

end Go.Proofs.Ytifdkkkcecpjoaa.Tx
end
section
/-
  Requests that are drawn by a number: each of them may be.
-/
namespace Go.Proofs.Ytifdkkkcecpjoaa
open Go.RowKit
attribute [local go_sem ↓] Go.wp_at_zero Go.wp_at_succ

def MakeEnd (w : World) (e : Ending) (w' : World) : Prop := ∃ (k : Int) (s t : ByteArray) (v : Int), e = .returned (rqv k s t v) ∧ (rqOfV k s t v).right = true ∧ s.size ≤ 12 ∧ t.size ≤ 600 ∧ Below w.heap.size w w'

theorem right_mk {k v : Int} {s t : ByteArray} (hw : isWord (bl s) = true) (h1 : 1 ≤ k) (h6 : k ≤ 6) (ht : t.size ≤ 600) (htk : t = ⟨#[]⟩ ∨ writesB k = true) (hv : v = 0 ∨ k = 5 ∧ -1099511627776 ≤ v ∧ v ≤ 1099511627776) : (rqOfV k s t v).right = true := by
  have h2 : ((bl t).isEmpty || writesB k) = true := by
    rcases htk with e | h
    · subst e; rfl
    · rw [h]; simp
  have h3 : (decide (-1099511627776 ≤ v) && decide (v ≤ 1099511627776) && (decide (v = 0) || decide (k = 5))) = true := by
    rcases hv with rfl | ⟨rfl, h, h'⟩
    · simp
    · simp [h, h']
  have h4 : decide ((bl t).length ≤ 600) = true := by rw [bl_length]; simpa using ht
  unfold Rq.right rqOfV
  rw [if_neg (by simp; omega), if_neg (by simp; omega)]
  show (isWord (bl s) && decide ((bl t).length ≤ 600) && ((bl t).isEmpty || writesB k) && decide (-1099511627776 ≤ v) && decide (v ≤ 1099511627776) && (decide (v = 0) || decide (k = 5))) = true
  rw [hw, h4, h2]
  simpa [Bool.and_assoc] using h3
theorem right_build : (rqOfV 7 ⟨#[]⟩ ⟨#[]⟩ 0).right = true := by decide

def vals : Array Value := #[.int .i64 0, .int .i64 1, .int .i64 7, .int .i64 300, .int .i64 (-1), .int .i64 1099511627776, .int .i64 (-1099511627776)]
theorem vals_at : ∀ k : Nat, k < 7 → ∃ v : Int, vals[k]? = some (.int .i64 v) ∧ -1099511627776 ≤ v ∧ v ≤ 1099511627776
  | 0, _ => ⟨_, rfl, by decide, by decide⟩
  | 1, _ => ⟨_, rfl, by decide, by decide⟩
  | 2, _ => ⟨_, rfl, by decide, by decide⟩
  | 3, _ => ⟨_, rfl, by decide, by decide⟩
  | 4, _ => ⟨_, rfl, by decide, by decide⟩
  | 5, _ => ⟨_, rfl, by decide, by decide⟩
  | 6, _ => ⟨_, rfl, by decide, by decide⟩
  | k + 7, h => absurd h (by omega)

set_option maxRecDepth 100000 in
set_option maxHeartbeats 1600000 in
theorem make_nil {w : World} {n : Int} (h0 : 0 ≤ n) (h1 : n ≤ 1073741824) : Calls Try.prog 14 #[.int .i64 n, .slice none 0 0] w (MakeEnd w) := by
  obtain ⟨W1, hW1⟩ : ∃ W1, W1 = w.alloc (.cells #[.int .i64 0, .string ⟨#[]⟩, .string ⟨#[]⟩, .int .i64 0] 27) := ⟨_, rfl⟩
  have b1 : Below w.heap.size w W1 := by rw [hW1]; exact (Below.refl _ _).alloc (Nat.le_refl _) _
  have hq1 : W1.heap[w.heap.size]? = some (.cells #[.int .i64 0, .string ⟨#[]⟩, .string ⟨#[]⟩, .int .i64 0] 27 (0, 0)) := by rw [hW1]; exact heap_alloc_new _ _
  have hz1 : w.heap.size < W1.heap.size := by rw [hW1]; simp
  have HW1 := Lib.hid hW1
  have HQ1 := Lib.hid hq1
  clear hW1 hq1
  go_enter Try.func14, Try.ntmps14
  go_wp2_with fail
  rw [← HW1.out]
  refine (name_any (n / 16) W1 (by omega) (by omega)).mono ?_
  rintro e w2 ⟨s, rfl, hw, hsz, b2⟩
  have b02 : Below w.heap.size w w2 := b1.trans (b2.mono b1.size)
  have HQ2 := Lib.hid ((b2.block _ hz1).trans HQ1.out)
  have hz2 : w.heap.size < w2.heap.size := Nat.lt_of_lt_of_le hz1 b2.size
  clear b2 b1 HQ1 hz1
  go_wp2_with fail
  obtain ⟨W3, hW3⟩ : ∃ W3, W3 = w2.alloc (.cells #[.int .i64 0, .string s, .string ⟨#[]⟩, .int .i64 0] 27) := ⟨_, rfl⟩
  have b03 : Below w.heap.size w W3 := by rw [hW3]; exact b02.alloc (Nat.le_of_lt hz2) _
  have hq3 : W3.heap[w2.heap.size]? = some (.cells #[.int .i64 0, .string s, .string ⟨#[]⟩, .int .i64 0] 27 (0, 0)) := by rw [hW3]; exact heap_alloc_new _ _
  have hz3 : W3.heap.size = w2.heap.size + 1 := by rw [hW3]; simp
  have HQ3 := Lib.hid (show W3.heap[w.heap.size]? = some (.cells #[.int .i64 0, .string ⟨#[]⟩, .string ⟨#[]⟩, .int .i64 0] 27 (0, 0)) by rw [hW3]; exact (Below.heap_alloc _ _ _ hz2).trans HQ2.out)
  rw [← hW3]
  clear hW3 b02 HQ2
  have hne : w.heap.size ≠ w2.heap.size := by omega
  have hle : w.heap.size ≤ w2.heap.size := Nat.le_of_lt hz2
  obtain ⟨r0, r1, r2, r3⟩ := box4 hq3
  obtain ⟨z0, z1, z2, z3⟩ := box4 HQ3.out
  have fr : ∀ o, W3.frozen? ⟨w2.heap.size, o, none⟩ = false := fun o => by simp [World.frozen?, hq3]
  have fz : ∀ o, W3.frozen? ⟨w.heap.size, o, none⟩ = false := fun o => by have := HQ3.out; simp [World.frozen?, this]
  have fr0 := fr 0
  have fr1 := fr 1
  have fr2 := fr 2
  have fr3 := fr 3
  have fz0 := fz 0
  have fz1 := fz 1
  have fz2 := fz 2
  have fz3 := fz 3
  have HZ3 := Lib.hid hz3
  have HQR := Lib.hid hq3
  have hw2W : w2.heap.size < W3.heap.size := by omega
  clear fr fz hz3 hq3
  have e0 := Int.emod_nonneg n (show (16 : Int) ≠ 0 by omega)
  have e1 := Int.emod_lt_of_pos n (show (0 : Int) < 16 by omega)
  obtain ⟨j, hj⟩ : ∃ j : Nat, n % 16 = (j : Int) := ⟨(n % 16).toNat, by omega⟩
  have HJ := Lib.hid hj
  have hj16 : j < 16 := by omega
  clear hj e0 e1
  refine (within27 n 16 _ (by omega) (by omega) (by omega) (by omega)).mono ?_
  rintro e w4 ⟨rfl, rfl⟩
  rw [HJ.out]
  by_cases h4 : j < 4
  · have h4' : (j : Int) < 4 := by omega
    go_wp2_with fail
    obtain ⟨q0, q1, q2, q3⟩ := box4 (put4 ((Below.heap_setCell (W3.setCell ⟨w2.heap.size, 0, none⟩ (.int .i64 1)) ⟨w2.heap.size, 2, none⟩ (.string ⟨#[]⟩) w.heap.size hne).trans ((Below.heap_setCell W3 ⟨w2.heap.size, 0, none⟩ (.int .i64 1) w.heap.size hne).trans HQ3.out)) (.int .i64 (1)) (.string (s)) (.string (⟨#[]⟩)) (.int .i64 (0)))
    refine bodyPost_ret (v := rqv (1) (s) (⟨#[]⟩) (0)) (by simp [results, Try.results14, go_sem, q0, q1, q2, q3]; rfl) rfl ⟨1, s, ⟨#[]⟩, 0, rfl, right_mk hw (by omega) (by omega) (by decide) (.inl rfl) (.inl rfl), hsz, by decide, put4_below ((b03.setCell (p := ⟨w2.heap.size, 0, none⟩) hle (.int .i64 1)).setCell (p := ⟨w2.heap.size, 2, none⟩) hle (.string ⟨#[]⟩)) (Nat.le_refl _) _ _ _ _⟩
  · by_cases h5 : j < 5
    · have h5' : (4 : Int) ≤ (j : Int) ∧ (j : Int) < 5 := by omega
      obtain ⟨h5a, h5b⟩ := h5'
      go_wp2_with fail
      obtain ⟨q0, q1, q2, q3⟩ := box4 (put4 ((Below.heap_setCell W3 ⟨w2.heap.size, 0, none⟩ (.int .i64 2) w.heap.size hne).trans HQ3.out) (.int .i64 (2)) (.string (s)) (.string (⟨#[]⟩)) (.int .i64 (0)))
      refine bodyPost_ret (v := rqv (2) (s) (⟨#[]⟩) (0)) (by simp [results, Try.results14, go_sem, q0, q1, q2, q3]; rfl) rfl ⟨2, s, ⟨#[]⟩, 0, rfl, right_mk hw (by omega) (by omega) (by decide) (.inl rfl) (.inl rfl), hsz, by decide, put4_below (b03.setCell (p := ⟨w2.heap.size, 0, none⟩) hle (.int .i64 2)) (Nat.le_refl _) _ _ _ _⟩
    · by_cases h8 : j < 8
      · have h8a : (5 : Int) ≤ (j : Int) := by omega
        have h8b : (j : Int) < 8 := by omega
        go_wp2_with fail
        obtain ⟨q0, q1, q2, q3⟩ := box4 (put4 ((Below.heap_setCell (W3.setCell ⟨w2.heap.size, 0, none⟩ (.int .i64 3)) ⟨w2.heap.size, 2, none⟩ (.string ⟨#[]⟩) w.heap.size hne).trans ((Below.heap_setCell W3 ⟨w2.heap.size, 0, none⟩ (.int .i64 3) w.heap.size hne).trans HQ3.out)) (.int .i64 (3)) (.string (s)) (.string (⟨#[]⟩)) (.int .i64 (0)))
        refine bodyPost_ret (v := rqv (3) (s) (⟨#[]⟩) (0)) (by simp [results, Try.results14, go_sem, q0, q1, q2, q3]; rfl) rfl ⟨3, s, ⟨#[]⟩, 0, rfl, right_mk hw (by omega) (by omega) (by decide) (.inl rfl) (.inl rfl), hsz, by decide, put4_below ((b03.setCell (p := ⟨w2.heap.size, 0, none⟩) hle (.int .i64 3)).setCell (p := ⟨w2.heap.size, 2, none⟩) hle (.string ⟨#[]⟩)) (Nat.le_refl _) _ _ _ _⟩
      · by_cases h9 : j < 9
        · have h9a : (8 : Int) ≤ (j : Int) := by omega
          have h9b : (j : Int) < 9 := by omega
          go_wp2_with fail
          obtain ⟨q0, q1, q2, q3⟩ := box4 (put4 ((Below.heap_setCell W3 ⟨w2.heap.size, 0, none⟩ (.int .i64 4) w.heap.size hne).trans HQ3.out) (.int .i64 (4)) (.string (s)) (.string (⟨#[]⟩)) (.int .i64 (0)))
          refine bodyPost_ret (v := rqv (4) (s) (⟨#[]⟩) (0)) (by simp [results, Try.results14, go_sem, q0, q1, q2, q3]; rfl) rfl ⟨4, s, ⟨#[]⟩, 0, rfl, right_mk hw (by omega) (by omega) (by decide) (.inl rfl) (.inl rfl), hsz, by decide, put4_below (b03.setCell (p := ⟨w2.heap.size, 0, none⟩) hle (.int .i64 4)) (Nat.le_refl _) _ _ _ _⟩
        · by_cases h12 : j < 12
          · have h12a : (9 : Int) ≤ (j : Int) := by omega
            have h12b : (j : Int) < 12 := by omega
            have i0 := Int.emod_nonneg (n / 16 / 12) (show (7 : Int) ≠ 0 by omega)
            have i1 := Int.emod_lt_of_pos (n / 16 / 12) (show (0 : Int) < 7 by omega)
            obtain ⟨i, hi⟩ : ∃ i : Nat, n / 16 / 12 % 7 = (i : Int) := ⟨(n / 16 / 12 % 7).toNat, by omega⟩
            have HI := Lib.hid hi
            have hi7 : i < 7 := by omega
            obtain ⟨v, hv, hv0, hv1⟩ := vals_at i hi7
            have hcv : (W3.alloc (.cells vals 3)).cell? ⟨W3.heap.size, i, none⟩ = some (.int .i64 v) := (cell_of_row _ W3.heap.size i vals 3 (0, 0) (heap_alloc_new W3 _)).trans hv
            clear hi i0 i1
            have hvl : ([.int .i64 0, .int .i64 1, .int .i64 7, .int .i64 300, .int .i64 (-1), .int .i64 1099511627776, .int .i64 (-1099511627776)] : List Value)[i]? = some (.int .i64 v) := by simpa [vals] using hv
            have hgi : ([.int .i64 0, .int .i64 1, .int .i64 7, .int .i64 300, .int .i64 (-1), .int .i64 1099511627776, .int .i64 (-1099511627776)] : List Value)[i]'(by simp; omega) = .int .i64 v := (List.getElem?_eq_some_iff.1 hvl).2
            clear hvl
            unfold vals at hv hcv
            have hqd : IntKind.i64.wrap ((n / 16).tdiv 12) = n / 16 / 12 := by
              rw [Int.tdiv_eq_ediv_of_nonneg (by omega), IntWalk.i64_in _ (by omega)]
            have hqn : (0 : Int) ≤ n / 16 / 12 := by omega
            have hwW : w.heap.size < W3.heap.size := by omega
            have hi7' : (i : Int) < 7 := by omega
            have hi0' : (0 : Int) ≤ (i : Int) := by omega
            go_wp2_with fail
            go_region_law (first | (go_simp; go_at_call 27; (with_reducible refine (within27 (n / 16 / 12) 7 _ (by omega) (by omega) (by omega) (by omega)).mono ?_); rintro e w5 ⟨rfl, rfl⟩; rw [HI.out]))
            all_goals
              go_wp2_with fail
              have hqx := put4 ((Below.heap_setCell (W3.setCell ⟨w2.heap.size, 0, none⟩ (.int .i64 5)) ⟨w2.heap.size, 3, none⟩ (.int .i64 v) w.heap.size hne).trans ((Below.heap_setCell W3 ⟨w2.heap.size, 0, none⟩ (.int .i64 5) w.heap.size hne).trans HQ3.out)) (.int .i64 5) (.string s) (.string ⟨#[]⟩) (.int .i64 v)
              have hbx := put4_below ((b03.setCell (p := ⟨w2.heap.size, 0, none⟩) hle (.int .i64 5)).setCell (p := ⟨w2.heap.size, 3, none⟩) hle (.int .i64 v)) (Nat.le_refl _) (.int .i64 5) (.string s) (.string ⟨#[]⟩) (.int .i64 v)
              have hqy := (Below.heap_alloc _ (.cells #[.int .i64 0, .int .i64 1, .int .i64 7, .int .i64 300, .int .i64 (-1), .int .i64 1099511627776, .int .i64 (-1099511627776)] 3) w.heap.size (by simp [World.setCell]; exact hwW)).trans hqx
              have hby := (hbx.alloc (by simp [World.setCell]; exact Nat.le_of_lt hwW) (.cells #[.int .i64 0, .int .i64 1, .int .i64 7, .int .i64 300, .int .i64 (-1), .int .i64 1099511627776, .int .i64 (-1099511627776)] 3)).drew
              obtain ⟨q0, q1, q2, q3⟩ := box4 hqy
              refine bodyPost_ret (v := rqv 5 s ⟨#[]⟩ v) (by simp [results, Try.results14, go_sem, q0, q1, q2, q3]; rfl) rfl ⟨5, s, ⟨#[]⟩, v, rfl, right_mk hw (by omega) (by omega) (by decide) (.inl rfl) (.inr ⟨rfl, hv0, hv1⟩), hsz, by decide, hby⟩
          · by_cases h13 : j < 13
            · have h13a : (12 : Int) ≤ (j : Int) := by omega
              have h13b : (j : Int) < 13 := by omega
              go_wp2_with fail
              obtain ⟨q0, q1, q2, q3⟩ := box4 (put4 ((Below.heap_setCell W3 ⟨w2.heap.size, 0, none⟩ (.int .i64 6) w.heap.size hne).trans HQ3.out) (.int .i64 (6)) (.string (s)) (.string (⟨#[]⟩)) (.int .i64 (0)))
              refine bodyPost_ret (v := rqv (6) (s) (⟨#[]⟩) (0)) (by simp [results, Try.results14, go_sem, q0, q1, q2, q3]; rfl) rfl ⟨6, s, ⟨#[]⟩, 0, rfl, right_mk hw (by omega) (by omega) (by decide) (.inl rfl) (.inl rfl), hsz, by decide, put4_below (b03.setCell (p := ⟨w2.heap.size, 0, none⟩) hle (.int .i64 6)) (Nat.le_refl _) _ _ _ _⟩
            · have h14a : (13 : Int) ≤ (j : Int) := by omega
              go_wp2_with fail
              obtain ⟨q0, q1, q2, q3⟩ := box4 (put4 ((Below.heap_setCell (W3.setCell ⟨w2.heap.size, 0, none⟩ (.int .i64 7)) ⟨w2.heap.size, 1, none⟩ (.string ⟨#[]⟩) w.heap.size hne).trans ((Below.heap_setCell W3 ⟨w2.heap.size, 0, none⟩ (.int .i64 7) w.heap.size hne).trans HQ3.out)) (.int .i64 (7)) (.string (⟨#[]⟩)) (.string (⟨#[]⟩)) (.int .i64 (0)))
              refine bodyPost_ret (v := rqv (7) (⟨#[]⟩) (⟨#[]⟩) (0)) (by simp [results, Try.results14, go_sem, q0, q1, q2, q3]; rfl) rfl ⟨7, ⟨#[]⟩, ⟨#[]⟩, 0, rfl, right_build, by decide, by decide, put4_below ((b03.setCell (p := ⟨w2.heap.size, 0, none⟩) hle (.int .i64 7)).setCell (p := ⟨w2.heap.size, 1, none⟩) hle (.string ⟨#[]⟩)) (Nat.le_refl _) _ _ _ _⟩
end Go.Proofs.Ytifdkkkcecpjoaa
end
section
/-
  Raw expressions and raw statements that are few: what Few answers.
-/
namespace Go.Proofs.Ytifdkkkcecpjoaa
set_option linter.unusedVariables false
set_option linter.unusedSimpArgs false
open Go.RowKit Go.Proofs.YtifdkkkcecpjoaaW.PrintWords Tx
attribute [local go_sem ↓] Go.wp_at_zero Go.wp_at_succ

/-- A raw expression is nested less than so deep. -/
def deepR : Nat → S99 → Prop
  | 0, _ => False
  | d + 1, x => ∀ y ∈ x.f2, deepR d y
def SizeEnd (d : Nat) (l : List S99) (w : World) (e : Ending) (w' : World) : Prop := ∃ r : Int, e = .returned (.int .i64 r) ∧ 0 ≤ r ∧ r ≤ 1000 + 20 * d ∧ (r ≤ 16 → (∀ y ∈ l, deepR d y) ∧ l.length ≤ 16) ∧ w = w'
theorem rd99 {l : List S99} {j : Nat} {y : S99} (h : l[j]? = some y) : rd_T99 l (j : Int) = y := by
  unfold rd_T99
  rw [Int.toNat_natCast, List.getD_eq_getElem?_getD, h]; rfl
set_option maxRecDepth 100000 in
set_option maxHeartbeats 1600000 in
theorem size_any : ∀ (d : Nat) (_ : d ≤ 8) (A : Option Addr) (c : Nat) (l : List S99) (w : World) (hC : Kd.C k99 w A l.length l),
    Calls Try.prog 50 #[.slice A l.length c, .int .i64 (8 - d : Int)] w (SizeEnd d l w)
  | 0, _, A, c, l, w, hC => by
    go_enter Try.func50, Try.ntmps50
    go_wp2_with fail
    go_ret
    exact ⟨1000, rfl, by omega, by omega, fun h => absurd h (by omega), rfl⟩
  | d + 1, hd, A, c, l, w, hC => by
    have ih := fun A c l w hC => size_any d (by omega) A c l w hC
    have hlt : ¬ (7 : Int) < 8 - ((d + 1 : Nat) : Int) := by omega
    have HC := Lib.hid hC
    clear hC
    obtain ⟨a, ha⟩ : ∃ a : Int, a = 8 - ((d + 1 : Nat) : Int) := ⟨_, rfl⟩
    rw [← ha] at hlt ⊢
    have ha1 : a + 1 = 8 - (d : Int) := by omega
    have ha0 : 0 ≤ a := by omega
    have ha8 : a ≤ 7 := by omega
    have HA1 := Lib.hid ha1
    clear ha ha1
    go_enter Try.func50, Try.ntmps50
    go_wp2_with fail
    go_loop [5, 6] (fun vn vi => ∃ (j : Nat) (n : Int), j ≤ l.length ∧ (j : Int) ≤ n ∧ n ≤ 1000 + 20 * (d + 1 : Nat) ∧ j ≤ 17 ∧ vn = .int .i64 n ∧ vi = .int .i64 j ∧ Hid (n ≤ 16 → ∀ y ∈ l.take j, deepR (d + 1) y)) (fun _ vi => 18 - (intOf vi).toNat)
    case atStart => exact ⟨0, 0, by omega, by omega, by omega, by omega, rfl, rfl, Lib.hid (by simp)⟩
    case round =>
      obtain ⟨j, n, hj, hjn, hn, hj17, rfl, rfl, HN⟩ := hrel
      by_cases h : j < l.length ∧ n ≤ 16
      · obtain ⟨h1, h2⟩ := h
        obtain ⟨y, hy⟩ : ∃ y, l[j]? = some y := ⟨l[j], List.getElem?_eq_getElem h1⟩
        obtain ⟨ad, A2, c2, rfl, k0, k1, k2, hl2, hC2⟩ := at_T99 HC.out (j : Int) (by omega) (by omega)
        rw [rd99 hy] at k0 k1 k2 hl2 hC2
        have hcall := ih A2 c2 y.f2 w hC2
        rw [← HA1.out] at hcall
        have HY : Hid (l.take (j + 1) = l.take j ++ [y]) := by show _ = _; rw [List.take_add_one, hy]; rfl
        rw [Int.toNat_natCast] at k0 k1 k2
        clear hy hC2 hl2 ih k0 k1
        go_wp2_with fail
        refine hcall.mono ?_
        rintro e w' ⟨r, rfl, r0, r1, hr, rfl⟩
        clear hcall
        have HR := Lib.hid hr
        clear hr
        have hm : n + 1 + r ≤ 16 → n ≤ 16 ∧ r ≤ 16 := fun h => by omega
        have hN2 : Hid (n + 1 + r ≤ 16 → ∀ y' ∈ l.take (j + 1), deepR (d + 1) y') := Lib.hid (fun h y' hy' => by
          rw [HY.out] at hy'
          rcases List.mem_append.1 hy' with h1 | h1
          · exact HN.out (hm h).1 y' h1
          · obtain rfl := List.mem_singleton.1 h1
            exact (HR.out (hm h).2).1)
        go_wp2_with fail
        go_round
        case rel => exact ⟨j + 1, n + 1 + r, by omega, by omega, by omega, by omega, by go_num, by go_num, hN2⟩
        case measure => simp [intOf]; omega
      · have hx : (¬ j < l.length) ∨ (j < l.length ∧ ¬ n ≤ 16) := by omega
        have hfin : n ≤ 16 → (∀ y ∈ l, deepR (d + 1) y) ∧ l.length ≤ 16 := fun hn16 => by
          have : j = l.length := by omega
          have h3 := HN.out hn16
          rw [this, List.take_length] at h3
          exact ⟨h3, by omega⟩
        have HF := Lib.hid hfin
        clear hfin ih
        rcases hx with h1 | ⟨h1, h2⟩
        · go_wp2_with fail
          go_ret
          exact ⟨n, rfl, by omega, hn, HF.out, rfl⟩
        · go_wp2_with fail
          go_ret
          exact ⟨n, rfl, by omega, hn, HF.out, rfl⟩
def FewE (l : List S99) (w : World) (e : Ending) (w' : World) : Prop := ∃ b, e = .returned (.bool b) ∧ (b = true → (∀ y ∈ l, deepR 8 y) ∧ l.length ≤ 16) ∧ w = w'
theorem few3_any {A : Option Addr} {c : Nat} {l : List S99} {w : World} (hC : Kd.C k99 w A l.length l) : Calls Try.prog 26 #[.slice A l.length c] w (FewE l w) := by
  have h := size_any 8 (Nat.le_refl _) A c l w hC
  have h' : Calls Try.prog 50 #[.slice A l.length c, .int .i64 0] w (SizeEnd 8 l w) := h
  clear h
  go_enter Try.func26, Try.ntmps26
  go_wp2_with fail
  refine h'.mono ?_
  rintro e w' ⟨r, rfl, r0, r1, hr, rfl⟩
  have HR := Lib.hid hr
  clear hr h'
  by_cases h : r ≤ 16
  · go_wp2_with fail
    go_ret
    exact ⟨true, by simp [h], fun _ => HR.out h, rfl⟩
  · go_wp2_with fail
    go_ret
    exact ⟨false, by simp [h], fun h => (by cases h), rfl⟩
/-- A raw statement that is not too much. -/
structure fewR (x : S63) : Prop where
  e : ∀ y ∈ x.f4, deepR 8 y
  n : x.f3.length ≤ 60
  len : x.f4.length ≤ 16
theorem rd63 {l : List S63} {j : Nat} {y : S63} (h : l[j]? = some y) : rd_T63 l (j : Int) = y := by
  unfold rd_T63
  rw [Int.toNat_natCast, List.getD_eq_getElem?_getD, h]; rfl
def FewS (l : List S63) (w : World) (e : Ending) (w' : World) : Prop := ∃ b, e = .returned (.bool b) ∧ (b = true → ∀ y ∈ l, fewR y) ∧ w = w'
set_option maxRecDepth 100000 in
set_option maxHeartbeats 1600000 in
theorem few4_any {A : Option Addr} {c : Nat} {l : List S63} {w : World} (hC : Kd.C k63 w A l.length l) (hl : l.length ≤ 1000000000000000) : Calls Try.prog 13 #[.slice A l.length c] w (FewS l w) := by
  have HC := Lib.hid hC
  clear hC
  go_enter Try.func13, Try.ntmps13
  go_wp2_with fail
  go_loop [3] (fun vi => ∃ (j : Nat), j ≤ l.length ∧ vi = .int .i64 j ∧ Hid (∀ y ∈ l.take j, fewR y)) (fun vi => l.length - (intOf vi).toNat)
  case atStart => exact ⟨0, by omega, rfl, Lib.hid (by simp)⟩
  case round =>
    obtain ⟨j, hj, rfl, HN⟩ := hrel
    by_cases h1 : j < l.length
    · obtain ⟨y, hy⟩ : ∃ y, l[j]? = some y := ⟨l[j], List.getElem?_eq_getElem h1⟩
      obtain ⟨ad, A3, c3, A4, c4, rfl, k0, k1, k2, k3, k4, k5, hl3, -, hl4, hC4⟩ := at_T63 HC.out (j : Int) (by omega) (by omega)
      rw [rd63 hy] at k3 k4 hl4 hC4
      have hcall := few3_any (c := c4) hC4
      have HY : Hid (l.take (j + 1) = l.take j ++ [y]) := by show _ = _; rw [List.take_add_one, hy]; rfl
      rw [Int.toNat_natCast] at k3 k4
      clear hy hC4 hl4 hl3 k0 k1 k2 k5
      go_wp2_with fail
      refine hcall.mono ?_
      rintro e w' ⟨b, rfl, hb, rfl⟩
      clear hcall
      have HB := Lib.hid hb
      clear hb
      cases b
      · go_wp2_with fail
        go_ret
        exact ⟨false, rfl, fun h => (by cases h), rfl⟩
      · by_cases hn : y.f3.length ≤ 60
        · have hN2 : Hid (∀ y' ∈ l.take (j + 1), fewR y') := Lib.hid (fun y' hy' => by
            rw [HY.out] at hy'
            rcases List.mem_append.1 hy' with h1 | h1
            · exact HN.out y' h1
            · obtain rfl := List.mem_singleton.1 h1
              exact ⟨(HB.out rfl).1, hn, (HB.out rfl).2⟩)
          go_wp2_with fail
          go_round
          case rel => exact ⟨j + 1, by omega, by go_num, hN2⟩
          case measure => simp [intOf]; omega
        · go_wp2_with fail
          go_ret
          exact ⟨false, rfl, fun h => (by cases h), rfl⟩
    · obtain rfl : j = l.length := by omega
      go_wp2_with fail
      go_ret
      exact ⟨true, rfl, fun _ => by have := HN.out; rwa [List.take_length] at this, rfl⟩
end Go.Proofs.Ytifdkkkcecpjoaa
end
section
/-
  The small functions behind the texts of lines: their contracts (by the print of the kit, the finding of a row by hand).
-/
namespace Go.Proofs.Ytifdkkkcecpjoaa.Tx
open Go.RowKit Go.Proofs.YtifdkkkcecpjoaaW.PrintWords Go.Proofs.YtifdkkkcecpjoaaW.PrintLast Go.Proofs.YtifdkkkcecpjoaaW.PrintMore
attribute [local go_sem] max2_int min2_int max_two min_two max_three min_three max_four min_four   -- for this text's walks alone
set_option linter.unusedVariables false
set_option linter.unusedSimpArgs false

/-! ### letterpresslaw3_size: function 50 -/
mutual
def letterpresslaw3_size.l0 : Nat → List (S99) → Int → Int → Int → Option (Int)
  | 0, _, _, _, _ => none
  | k + 1, x0, x1, x5, x6 => if x6 < (x0.length : Int) then (if x5 ≤ 16 then (if 0 ≤ x6 then ((letterpresslaw3_size.f k ((rd_T99 x0 x6).f2) (wrap64 (x1 + 1))).bind fun t143 => (letterpresslaw3_size.l0 k x0 x1 (wrap64 ((wrap64 (x5 + 1)) + t143)) (wrap64 (x6 + 1)))) else (none)) else (some x5)) else (some x5)
def letterpresslaw3_size.f : Nat → List (S99) → Int → Option (Int)
  | 0, _, _ => none
  | k + 1, l0, a1 => if a1 > 7 then (some 1000) else (letterpresslaw3_size.l0 k l0 a1 0 0)
end
theorem letterpresslaw3_size.mono_l : ∀ k, (∀ y0 y1, LeO (letterpresslaw3_size.f k y0 y1) (letterpresslaw3_size.f (k + 1) y0 y1)) ∧ (∀ y0 y1 y2 y3, LeO (letterpresslaw3_size.l0 k y0 y1 y2 y3) (letterpresslaw3_size.l0 (k + 1) y0 y1 y2 y3))
  | 0 => ⟨fun _ _ r h => by simp [letterpresslaw3_size.f] at h, fun _ _ _ _ r h => by simp [letterpresslaw3_size.l0] at h⟩
  | k + 1 => by
    obtain ⟨ih0, ih1⟩ := letterpresslaw3_size.mono_l k
    refine ⟨?_, ?_⟩
    · intro y0 y1
      unfold letterpresslaw3_size.f
      repeat' first
      | (with_reducible exact ih0 _ _)
      | (with_reducible exact ih1 _ _ _ _)
      | (with_reducible exact LeO.refl _)
      | (with_reducible exact LeO.none _)
      | (with_reducible refine LeO.ite ?_ ?_)
      | (with_reducible refine LeO.bind ?_ (fun _ => ?_))
      | exact ih0 _ _
      | exact ih1 _ _ _ _
      | exact LeO.none _
      | refine LeO.ite ?_ ?_
      | refine LeO.bind ?_ (fun _ => ?_)
    · intro y0 y1 y2 y3
      unfold letterpresslaw3_size.l0
      repeat' first
      | (with_reducible exact ih0 _ _)
      | (with_reducible exact ih1 _ _ _ _)
      | (with_reducible exact LeO.refl _)
      | (with_reducible exact LeO.none _)
      | (with_reducible refine LeO.ite ?_ ?_)
      | (with_reducible refine LeO.bind ?_ (fun _ => ?_))
      | exact ih0 _ _
      | exact ih1 _ _ _ _
      | exact LeO.none _
      | refine LeO.ite ?_ ?_
      | refine LeO.bind ?_ (fun _ => ?_)
theorem letterpresslaw3_size.mono : ∀ a0 a1 k, LeO (letterpresslaw3_size.f k a0 a1) (letterpresslaw3_size.f (k + 1) a0 a1) := by
  intro a0 a1 k
  obtain ⟨ih0, ih1⟩ := letterpresslaw3_size.mono_l k
  exact ih0 a0 a1
set_option maxHeartbeats 8000000 in
set_option maxRecDepth 100000 in
theorem letterpresslaw3_size.calls (k : Nat) : ∀ (A0 : Option Addr) (c0 : Nat) (l0 : List (S99)) (a1 : Int) (r : Int) (w : World) (hr0 : Kd.C k99 w A0 l0.length l0) (hc0 : l0.length ≤ c0) (h : letterpresslaw3_size.f k l0 a1 = some r),
    Calls Try.prog 50 #[.slice A0 l0.length c0, .int .i64 a1] w fun e w' => e = .returned (.int .i64 r) ∧ Drawn0 w w' := by
  induction k using Nat.strongRecOn with
  | _ k ih =>
  intro A0 c0 l0 a1 r w hr0 hc0 h
  cases k with
  | zero => exact absurd h (by simp [letterpresslaw3_size.f])
  | succ k =>
  simp only [letterpresslaw3_size.f] at h
  have HR0 := Aside0.mk hr0
  have HC0 := Aside0.mk hc0
  clear hr0 hc0
  have H : (if a1 > 7 then (some 1000) else (letterpresslaw3_size.l0 k l0 a1 0 0)) = some r := h
  clear h
  by_cases c3 : a1 > 7
  · rw [if_pos c3] at H
    have c3b0 : decide (7 < a1) = true := decide_eq_true c3
    clear c3
    obtain rfl := Option.some.inj H
    go_enter Try.func50, Try.ntmps50
    go_wp2
    go_ret
    exact ⟨by first | rfl | (simp; done) | (simp [*]; done), by repeat (first | exact Drawn0.refl _ | apply Drawn0.step)⟩
  · rw [if_neg c3] at H
    have c3b0 : decide (7 < a1) = false := decide_eq_false c3
    clear c3
    have H' := Aside0.mk H
    clear H
    go_enter Try.func50, Try.ntmps50
    go_wp2
    go_loopg [5, 6] k (fun kq v5 v6 w' => ∃ (x5_1 : Int) (x6_1 : Int), v5 = .int .i64 x5_1 ∧ v6 = .int .i64 x6_1 ∧ Aside0 (letterpresslaw3_size.l0 kq l0 a1 x5_1 x6_1 = some r) ∧ Aside0 (kq ≤ k) ∧ Drawn0 w w')
    case atStart => exact ⟨(0), (0), (by first | rfl | (simp; done) | (simp [*]; done)), (by first | rfl | (simp; done) | (simp [*]; done)), H', ⟨Nat.le_refl _⟩, by repeat (first | exact Drawn0.refl _ | apply Drawn0.step)⟩
    case round =>
      clear H'
      try clear p2
      try clear c3
      try clear c3b0
      obtain ⟨x5_1, x6_1, rfl, rfl, HA, HK1, ⟨m1, rfl⟩⟩ := hrel
      cases gk with
      | zero => exact absurd HA.out (by simp [letterpresslaw3_size.l0])
      | succ k1 =>
        have H := HA.out
        clear HA
        simp only [letterpresslaw3_size.l0] at H
        by_cases c4 : x6_1 < (l0.length : Int)
        · rw [if_pos c4] at H
          have c4b0 : decide (x6_1 < (l0.length : Int)) = true := decide_eq_true c4
          clear c4
          by_cases c5 : x5_1 ≤ 16
          · rw [if_pos c5] at H
            have c5b0 : decide (x5_1 ≤ 16) = true := decide_eq_true c5
            clear c5
            by_cases c6 : 0 ≤ x6_1
            · rw [if_pos c6] at H
              have c6b0 : decide (0 ≤ x6_1) = true := decide_eq_true c6
              clear c6
              replace H := Option.bind_eq_some_iff.mp H
              obtain ⟨t143, A70, H⟩ := H
              replace H : (letterpresslaw3_size.l0 k1 l0 a1 (wrap64 ((wrap64 (x5_1 + 1)) + t143)) (wrap64 (x6_1 + 1))) = some r := H
              have A7 := Aside0.mk A70
              clear A70
              have H' := Aside0.mk H
              clear H
              have p142 : 0 ≤ (x6_1 : Int) := of_decide_eq_true (by first | (with_reducible assumption) | assumption)
              have q142 : x6_1 < (l0.length : Int) := of_decide_eq_true (by first | (with_reducible assumption) | assumption)
              obtain ⟨ad142, A142_2, c142_2, e142, hx142_0, hx142_1, hx142_2, hl142_2, hi142_2⟩ := at_T99 HR0.out x6_1 p142 q142
              cases e142
              have HR142_2 := Aside0.mk hi142_2
              have HC142_2 := Aside0.mk hl142_2
              clear hi142_2 hl142_2
              replace p142 := eq_true p142
              replace q142 := eq_true q142
              go_wp2_with (first | ((with_reducible refine gate_callee (f := 50) rfl ?_); refine goesL_ (some 28) rfl rfl Try.func50 (by kernel_rfl) rfl #[.slice A142_2 ((rd_T99 l0 x6_1).f2).length c142_2, .int .i64 (wrap64 (a1 + 1))] rfl (by (try simp only [List.map_toArray, List.map_cons, List.map_nil]); first | done | rfl | (simp only [List.length_drop, List.length_take]; rfl)) ?_; (with_reducible refine (ih k1 (by have := HK1.out; omega) _ _ ((rd_T99 l0 x6_1).f2) (wrap64 (a1 + 1)) t143 _ ?side1 ?side2 A7.out).mono ?_); (case side1 => repeat (first | exact HR142_2.out | (with_reducible refine Kd.C_alloc ?_ _) | (with_reducible refine Kd.C_drewN ?_ _) | (with_reducible refine Kd.C_drew ?_))); (case side2 => exact HC142_2.out); rintro e w' ⟨rfl, ⟨nd, rfl⟩⟩; refine ⟨_, rfl, ?_⟩))
              go_roundg k1
              case measure => have := HK1.out; omega
              case rel => exact ⟨(wrap64 ((wrap64 (x5_1 + 1)) + t143)), (wrap64 (x6_1 + 1)), (by first | rfl | (simp; done) | (simp [*]; done)), (by first | rfl | (simp; done) | (simp [*]; done)), H', ⟨by have := HK1.out; omega⟩, by repeat (first | exact Drawn0.refl _ | apply Drawn0.step)⟩
            · rw [if_neg c6] at H
              exact absurd H (by simp)
          · rw [if_neg c5] at H
            have c5b0 : decide (x5_1 ≤ 16) = false := decide_eq_false c5
            clear c5
            obtain rfl := Option.some.inj H
            go_wp2
            go_ret
            exact ⟨by first | rfl | (simp; done) | (simp [*]; done), by repeat (first | exact Drawn0.refl _ | apply Drawn0.step)⟩
        · rw [if_neg c4] at H
          have c4b0 : decide (x6_1 < (l0.length : Int)) = false := decide_eq_false c4
          clear c4
          obtain rfl := Option.some.inj H
          go_wp2
          go_ret
          exact ⟨by first | rfl | (simp; done) | (simp [*]; done), by repeat (first | exact Drawn0.refl _ | apply Drawn0.step)⟩

/-! ### letterpresslaw3_Few: function 26 -/
def letterpresslaw3_Few.f (k : Nat) (l0 : List (S99)) : Option (Bool) := (letterpresslaw3_size.f k l0 0).bind fun t144 => (some (decide (t144 ≤ 16)))
theorem letterpresslaw3_Few.mono : ∀ a0 k, LeO (letterpresslaw3_Few.f k a0) (letterpresslaw3_Few.f (k + 1) a0) := by
  intro a0 k
  unfold letterpresslaw3_Few.f
  repeat' first
      | (with_reducible exact letterpresslaw3_size.mono _ _ _)
      | (with_reducible exact LeO.refl _)
      | (with_reducible exact LeO.none _)
      | (with_reducible refine LeO.ite ?_ ?_)
      | (with_reducible refine LeO.bind ?_ (fun _ => ?_))
      | exact letterpresslaw3_size.mono _ _ _
      | exact LeO.none _
      | refine LeO.ite ?_ ?_
      | refine LeO.bind ?_ (fun _ => ?_)
set_option maxHeartbeats 8000000 in
set_option maxRecDepth 100000 in
theorem letterpresslaw3_Few.calls (k : Nat) (A0 : Option Addr) (c0 : Nat) (l0 : List (S99)) (r : Bool) (w : World) (hr0 : Kd.C k99 w A0 l0.length l0) (hc0 : l0.length ≤ c0) (h : letterpresslaw3_Few.f k l0 = some r) :
    Calls Try.prog 26 #[.slice A0 l0.length c0] w fun e w' => e = .returned (.bool r) ∧ Drawn0 w w' := by
  have HR0 := Aside0.mk hr0
  have HC0 := Aside0.mk hc0
  clear hr0 hc0
  have H : ((letterpresslaw3_size.f k l0 0).bind fun t144 => (some (decide (t144 ≤ 16)))) = some r := h
  clear h
  replace H := Option.bind_eq_some_iff.mp H
  obtain ⟨t144, A20, H⟩ := H
  replace H : (some (decide (t144 ≤ 16))) = some r := H
  have A2 := Aside0.mk A20
  clear A20
  obtain rfl := Option.some.inj H
  go_enter Try.func26, Try.ntmps26
  go_wp2_with (first | ((with_reducible refine gate_callee (f := 50) rfl ?_); refine goesL_ (some 4) rfl rfl Try.func50 (by kernel_rfl) rfl #[.slice A0 l0.length c0, .int .i64 0] rfl (by (try simp only [List.map_toArray, List.map_cons, List.map_nil]); first | done | rfl | (simp only [List.length_drop, List.length_take]; rfl)) ?_; (with_reducible refine (letterpresslaw3_size.calls k _ _ l0 0 t144 _ ?side1 ?side2 A2.out).mono ?_); (case side1 => repeat (first | exact HR0.out | (with_reducible refine Kd.C_alloc ?_ _) | (with_reducible refine Kd.C_drewN ?_ _) | (with_reducible refine Kd.C_drew ?_))); (case side2 => exact HC0.out); rintro e w' ⟨rfl, ⟨nd, rfl⟩⟩; refine ⟨_, rfl, ?_⟩))
  go_ret
  exact ⟨by first | rfl | (simp; done) | (simp [*]; done), by repeat (first | exact Drawn0.refl _ | apply Drawn0.step)⟩

/-! ### letterpresslaw4_Few: function 13 -/
def letterpresslaw4_Few.l0 : Nat → List (S63) → Int → Option (Bool)
  | 0, _, _ => none
  | k + 1, x0, x3 => if x3 < (x0.length : Int) then (if 0 ≤ x3 then ((letterpresslaw3_Few.f k ((rd_T63 x0 x3).f4)).bind fun t146 => (if t146 = true then (if (((rd_T63 x0 x3).f3).length : Int) > 60 then (some false) else (letterpresslaw4_Few.l0 k x0 (wrap64 (x3 + 1)))) else (some false))) else (none)) else (some true)
def letterpresslaw4_Few.f (k : Nat) (l0 : List (S63)) : Option (Bool) := letterpresslaw4_Few.l0 k l0 0
theorem letterpresslaw4_Few.mono_l : ∀ k, (∀ y0 y1, LeO (letterpresslaw4_Few.l0 k y0 y1) (letterpresslaw4_Few.l0 (k + 1) y0 y1))
  | 0 => fun _ _ r h => by simp [letterpresslaw4_Few.l0] at h
  | k + 1 => by
    have ih0 := letterpresslaw4_Few.mono_l k
    · intro y0 y1
      unfold letterpresslaw4_Few.l0
      repeat' first
      | (with_reducible exact ih0 _ _)
      | (with_reducible exact letterpresslaw3_Few.mono _ _)
      | (with_reducible exact LeO.refl _)
      | (with_reducible exact LeO.none _)
      | (with_reducible refine LeO.ite ?_ ?_)
      | (with_reducible refine LeO.bind ?_ (fun _ => ?_))
      | exact ih0 _ _
      | exact letterpresslaw3_Few.mono _ _
      | exact LeO.none _
      | refine LeO.ite ?_ ?_
      | refine LeO.bind ?_ (fun _ => ?_)
theorem letterpresslaw4_Few.mono : ∀ a0 k, LeO (letterpresslaw4_Few.f k a0) (letterpresslaw4_Few.f (k + 1) a0) := by
  intro a0 k
  have ih0 := letterpresslaw4_Few.mono_l k
  unfold letterpresslaw4_Few.f
  repeat' first
      | (with_reducible exact ih0 _ _)
      | (with_reducible exact letterpresslaw3_Few.mono _ _)
      | (with_reducible exact LeO.refl _)
      | (with_reducible exact LeO.none _)
      | (with_reducible refine LeO.ite ?_ ?_)
      | (with_reducible refine LeO.bind ?_ (fun _ => ?_))
      | exact ih0 _ _
      | exact letterpresslaw3_Few.mono _ _
      | exact LeO.none _
      | refine LeO.ite ?_ ?_
      | refine LeO.bind ?_ (fun _ => ?_)
set_option maxHeartbeats 8000000 in
set_option maxRecDepth 100000 in
theorem letterpresslaw4_Few.calls (k : Nat) (A0 : Option Addr) (c0 : Nat) (l0 : List (S63)) (r : Bool) (w : World) (hr0 : Kd.C k63 w A0 l0.length l0) (hc0 : l0.length ≤ c0) (h : letterpresslaw4_Few.f k l0 = some r) :
    Calls Try.prog 13 #[.slice A0 l0.length c0] w fun e w' => e = .returned (.bool r) ∧ Drawn0 w w' := by
  have HR0 := Aside0.mk hr0
  have HC0 := Aside0.mk hc0
  clear hr0 hc0
  have H : (letterpresslaw4_Few.l0 k l0 0) = some r := h
  clear h
  have H' := Aside0.mk H
  clear H
  go_enter Try.func13, Try.ntmps13
  go_wp2
  go_loopg [3] k (fun kq v3 w' => ∃ (x3_1 : Int), v3 = .int .i64 x3_1 ∧ Aside0 (letterpresslaw4_Few.l0 kq l0 x3_1 = some r) ∧ Aside0 (kq ≤ k) ∧ Drawn0 w w')
  case atStart => exact ⟨(0), (by first | rfl | (simp; done) | (simp [*]; done)), H', ⟨Nat.le_refl _⟩, by repeat (first | exact Drawn0.refl _ | apply Drawn0.step)⟩
  case round =>
    clear H'
    try clear c1
    obtain ⟨x3_1, rfl, HA, HK1, ⟨m1, rfl⟩⟩ := hrel
    cases gk with
    | zero => exact absurd HA.out (by simp [letterpresslaw4_Few.l0])
    | succ k1 =>
      have H := HA.out
      clear HA
      simp only [letterpresslaw4_Few.l0] at H
      by_cases c2 : x3_1 < (l0.length : Int)
      · rw [if_pos c2] at H
        have c2b0 : decide (x3_1 < (l0.length : Int)) = true := decide_eq_true c2
        clear c2
        by_cases c3 : 0 ≤ x3_1
        · rw [if_pos c3] at H
          have c3b0 : decide (0 ≤ x3_1) = true := decide_eq_true c3
          clear c3
          replace H := Option.bind_eq_some_iff.mp H
          obtain ⟨t146, A40, H⟩ := H
          replace H : (if t146 = true then (if (((rd_T63 l0 x3_1).f3).length : Int) > 60 then (some false) else (letterpresslaw4_Few.l0 k1 l0 (wrap64 (x3_1 + 1)))) else (some false)) = some r := H
          have A4 := Aside0.mk A40
          clear A40
          by_cases c5 : t146 = true
          · subst c5
            have H1 : (if (((rd_T63 l0 x3_1).f3).length : Int) > 60 then (some false) else (letterpresslaw4_Few.l0 k1 l0 (wrap64 (x3_1 + 1)))) = some r := by rw [if_pos rfl] at H; exact H
            clear H
            have H := H1
            clear H1
            by_cases c6 : (((rd_T63 l0 x3_1).f3).length : Int) > 60
            · rw [if_pos c6] at H
              have c6b0 : decide (60 < (((rd_T63 l0 x3_1).f3).length : Int)) = true := decide_eq_true c6
              have c6b1 : decide (60 < ((rd_T63 l0 x3_1).f3).length) = true := decide_eq_true (by omega)
              clear c6
              obtain rfl := Option.some.inj H
              have p145 : 0 ≤ (x3_1 : Int) := of_decide_eq_true (by first | (with_reducible assumption) | assumption)
              have q145 : x3_1 < (l0.length : Int) := of_decide_eq_true (by first | (with_reducible assumption) | assumption)
              obtain ⟨ad145, A145_3, c145_3, A145_4, c145_4, e145, hx145_0, hx145_1, hx145_2, hx145_3, hx145_4, hx145_5, hl145_3, hi145_3, hl145_4, hi145_4⟩ := at_T63 HR0.out x3_1 p145 q145
              cases e145
              have HR145_3 := Aside0.mk hi145_3
              have HC145_3 := Aside0.mk hl145_3
              clear hi145_3 hl145_3
              have HR145_4 := Aside0.mk hi145_4
              have HC145_4 := Aside0.mk hl145_4
              clear hi145_4 hl145_4
              replace p145 := eq_true p145
              replace q145 := eq_true q145
              go_wp2_with (first | ((with_reducible refine gate_callee (f := 26) rfl ?_); refine goesL_ (some 15) rfl rfl Try.func26 (by kernel_rfl) rfl #[.slice A145_4 ((rd_T63 l0 x3_1).f4).length c145_4] rfl (by (try simp only [List.map_toArray, List.map_cons, List.map_nil]); first | done | rfl | (simp only [List.length_drop, List.length_take]; rfl)) ?_; (with_reducible refine (letterpresslaw3_Few.calls k1 _ _ ((rd_T63 l0 x3_1).f4) true _ ?side1 ?side2 A4.out).mono ?_); (case side1 => repeat (first | exact HR145_4.out | (with_reducible refine Kd.C_alloc ?_ _) | (with_reducible refine Kd.C_drewN ?_ _) | (with_reducible refine Kd.C_drew ?_))); (case side2 => exact HC145_4.out); rintro e w' ⟨rfl, ⟨nd, rfl⟩⟩; refine ⟨_, rfl, ?_⟩; have p147 : 0 ≤ (x3_1 : Int) := of_decide_eq_true (by first | (with_reducible assumption) | assumption); have q147 : x3_1 < (l0.length : Int) := of_decide_eq_true (by first | (with_reducible assumption) | assumption); obtain ⟨ad147, A147_3, c147_3, A147_4, c147_4, e147, hx147_0, hx147_1, hx147_2, hx147_3, hx147_4, hx147_5, hl147_3, hi147_3, hl147_4, hi147_4⟩ := at_T63 HR0.out x3_1 p147 q147; obtain rfl : ad145 = ad147 := (by injection e147); have HR147_3 := Aside0.mk hi147_3; have HC147_3 := Aside0.mk hl147_3; clear hi147_3 hl147_3; have HR147_4 := Aside0.mk hi147_4; have HC147_4 := Aside0.mk hl147_4; clear hi147_4 hl147_4; replace p147 := eq_true p147; replace q147 := eq_true q147; have ea_ := Option.some.inj (hx145_3.symm.trans hx147_3); injection ea_ with ea_ en_ ec_; subst ea_; subst ec_; clear en_; have ea_ := Option.some.inj (hx145_4.symm.trans hx147_4); injection ea_ with ea_ en_ ec_; subst ea_; subst ec_; clear en_))
              go_ret
              exact ⟨by first | rfl | (simp; done) | (simp [*]; done), by repeat (first | exact Drawn0.refl _ | apply Drawn0.step)⟩
            · rw [if_neg c6] at H
              have c6b0 : decide (60 < (((rd_T63 l0 x3_1).f3).length : Int)) = false := decide_eq_false c6
              have c6b1 : decide (60 < ((rd_T63 l0 x3_1).f3).length) = false := decide_eq_false (by omega)
              clear c6
              have H' := Aside0.mk H
              clear H
              have p145 : 0 ≤ (x3_1 : Int) := of_decide_eq_true (by first | (with_reducible assumption) | assumption)
              have q145 : x3_1 < (l0.length : Int) := of_decide_eq_true (by first | (with_reducible assumption) | assumption)
              obtain ⟨ad145, A145_3, c145_3, A145_4, c145_4, e145, hx145_0, hx145_1, hx145_2, hx145_3, hx145_4, hx145_5, hl145_3, hi145_3, hl145_4, hi145_4⟩ := at_T63 HR0.out x3_1 p145 q145
              cases e145
              have HR145_3 := Aside0.mk hi145_3
              have HC145_3 := Aside0.mk hl145_3
              clear hi145_3 hl145_3
              have HR145_4 := Aside0.mk hi145_4
              have HC145_4 := Aside0.mk hl145_4
              clear hi145_4 hl145_4
              replace p145 := eq_true p145
              replace q145 := eq_true q145
              go_wp2_with (first | ((with_reducible refine gate_callee (f := 26) rfl ?_); refine goesL_ (some 15) rfl rfl Try.func26 (by kernel_rfl) rfl #[.slice A145_4 ((rd_T63 l0 x3_1).f4).length c145_4] rfl (by (try simp only [List.map_toArray, List.map_cons, List.map_nil]); first | done | rfl | (simp only [List.length_drop, List.length_take]; rfl)) ?_; (with_reducible refine (letterpresslaw3_Few.calls k1 _ _ ((rd_T63 l0 x3_1).f4) true _ ?side1 ?side2 A4.out).mono ?_); (case side1 => repeat (first | exact HR145_4.out | (with_reducible refine Kd.C_alloc ?_ _) | (with_reducible refine Kd.C_drewN ?_ _) | (with_reducible refine Kd.C_drew ?_))); (case side2 => exact HC145_4.out); rintro e w' ⟨rfl, ⟨nd, rfl⟩⟩; refine ⟨_, rfl, ?_⟩; have p147 : 0 ≤ (x3_1 : Int) := of_decide_eq_true (by first | (with_reducible assumption) | assumption); have q147 : x3_1 < (l0.length : Int) := of_decide_eq_true (by first | (with_reducible assumption) | assumption); obtain ⟨ad147, A147_3, c147_3, A147_4, c147_4, e147, hx147_0, hx147_1, hx147_2, hx147_3, hx147_4, hx147_5, hl147_3, hi147_3, hl147_4, hi147_4⟩ := at_T63 HR0.out x3_1 p147 q147; obtain rfl : ad145 = ad147 := (by injection e147); have HR147_3 := Aside0.mk hi147_3; have HC147_3 := Aside0.mk hl147_3; clear hi147_3 hl147_3; have HR147_4 := Aside0.mk hi147_4; have HC147_4 := Aside0.mk hl147_4; clear hi147_4 hl147_4; replace p147 := eq_true p147; replace q147 := eq_true q147; have ea_ := Option.some.inj (hx145_3.symm.trans hx147_3); injection ea_ with ea_ en_ ec_; subst ea_; subst ec_; clear en_; have ea_ := Option.some.inj (hx145_4.symm.trans hx147_4); injection ea_ with ea_ en_ ec_; subst ea_; subst ec_; clear en_))
              go_roundg k1
              case measure => have := HK1.out; omega
              case rel => exact ⟨(wrap64 (x3_1 + 1)), (by first | rfl | (simp; done) | (simp [*]; done)), H', ⟨by have := HK1.out; omega⟩, by repeat (first | exact Drawn0.refl _ | apply Drawn0.step)⟩
          · replace c5 := Bool.eq_false_iff.mpr c5
            subst c5
            have H1 : (some false) = some r := by rw [if_neg (show ¬ (false = true) by decide)] at H; exact H
            clear H
            have H := H1
            clear H1
            obtain rfl := Option.some.inj H
            have p145 : 0 ≤ (x3_1 : Int) := of_decide_eq_true (by first | (with_reducible assumption) | assumption)
            have q145 : x3_1 < (l0.length : Int) := of_decide_eq_true (by first | (with_reducible assumption) | assumption)
            obtain ⟨ad145, A145_3, c145_3, A145_4, c145_4, e145, hx145_0, hx145_1, hx145_2, hx145_3, hx145_4, hx145_5, hl145_3, hi145_3, hl145_4, hi145_4⟩ := at_T63 HR0.out x3_1 p145 q145
            cases e145
            have HR145_3 := Aside0.mk hi145_3
            have HC145_3 := Aside0.mk hl145_3
            clear hi145_3 hl145_3
            have HR145_4 := Aside0.mk hi145_4
            have HC145_4 := Aside0.mk hl145_4
            clear hi145_4 hl145_4
            replace p145 := eq_true p145
            replace q145 := eq_true q145
            go_wp2_with (first | ((with_reducible refine gate_callee (f := 26) rfl ?_); refine goesL_ (some 15) rfl rfl Try.func26 (by kernel_rfl) rfl #[.slice A145_4 ((rd_T63 l0 x3_1).f4).length c145_4] rfl (by (try simp only [List.map_toArray, List.map_cons, List.map_nil]); first | done | rfl | (simp only [List.length_drop, List.length_take]; rfl)) ?_; (with_reducible refine (letterpresslaw3_Few.calls k1 _ _ ((rd_T63 l0 x3_1).f4) false _ ?side1 ?side2 A4.out).mono ?_); (case side1 => repeat (first | exact HR145_4.out | (with_reducible refine Kd.C_alloc ?_ _) | (with_reducible refine Kd.C_drewN ?_ _) | (with_reducible refine Kd.C_drew ?_))); (case side2 => exact HC145_4.out); rintro e w' ⟨rfl, ⟨nd, rfl⟩⟩; refine ⟨_, rfl, ?_⟩))
            go_ret
            exact ⟨by first | rfl | (simp; done) | (simp [*]; done), by repeat (first | exact Drawn0.refl _ | apply Drawn0.step)⟩
        · rw [if_neg c3] at H
          exact absurd H (by simp)
      · rw [if_neg c2] at H
        have c2b0 : decide (x3_1 < (l0.length : Int)) = false := decide_eq_false c2
        clear c2
        obtain rfl := Option.some.inj H
        go_wp2
        go_ret
        exact ⟨by first | rfl | (simp; done) | (simp [*]; done), by repeat (first | exact Drawn0.refl _ | apply Drawn0.step)⟩

/-! ### letterpresslaw4_within: function 51 -/
def letterpresslaw4_within.f (a0 : Int) (a1 : Int) : Option (Int) := if a1 = 0 then (none) else (if (Int.tmod a0 a1) < 0 then (some (wrap64 ((Int.tmod a0 a1) + a1))) else (some (Int.tmod a0 a1)))
set_option maxHeartbeats 8000000 in
set_option maxRecDepth 100000 in
theorem letterpresslaw4_within.calls (a0 : Int) (a1 : Int) (r : Int) (w : World) (h : letterpresslaw4_within.f a0 a1 = some r) :
    Calls Try.prog 51 #[.int .i64 a0, .int .i64 a1] w fun e w' => e = .returned (.int .i64 r) ∧ Drawn0 w w' := by
  have H : (if a1 = 0 then (none) else (if (Int.tmod a0 a1) < 0 then (some (wrap64 ((Int.tmod a0 a1) + a1))) else (some (Int.tmod a0 a1)))) = some r := h
  clear h
  by_cases c3 : a1 = 0
  · rw [if_pos c3] at H
    exact absurd H (by simp)
  · rw [if_neg c3] at H
    have c3b0 : (a1 == 0) = false := beq_eq_false_iff_ne.mpr c3
    have c3b1 : (a1 != 0) = true := bne_iff_ne.mpr c3
    by_cases c4 : (Int.tmod a0 a1) < 0
    · rw [if_pos c4] at H
      have c4b0 : decide ((Int.tmod a0 a1) < 0) = true := decide_eq_true c4
      clear c4
      obtain rfl := Option.some.inj H
      go_enter Try.func51, Try.ntmps51
      go_wp2
      go_ret
      exact ⟨by first | rfl | (simp; done) | (simp [*]; done), by repeat (first | exact Drawn0.refl _ | apply Drawn0.step)⟩
    · rw [if_neg c4] at H
      have c4b0 : decide ((Int.tmod a0 a1) < 0) = false := decide_eq_false c4
      clear c4
      obtain rfl := Option.some.inj H
      go_enter Try.func51, Try.ntmps51
      go_wp2
      go_ret
      exact ⟨by first | rfl | (simp; done) | (simp [*]; done), by repeat (first | exact Drawn0.refl _ | apply Drawn0.step)⟩

/-! ### letterpresslaw3_within: function 84 -/
def letterpresslaw3_within.f (a0 : Int) (a1 : Int) : Option (Int) := if a1 = 0 then (none) else (if (Int.tmod a0 a1) < 0 then (some (wrap64 ((Int.tmod a0 a1) + a1))) else (some (Int.tmod a0 a1)))
set_option maxHeartbeats 8000000 in
set_option maxRecDepth 100000 in
theorem letterpresslaw3_within.calls (a0 : Int) (a1 : Int) (r : Int) (w : World) (h : letterpresslaw3_within.f a0 a1 = some r) :
    Calls Try.prog 84 #[.int .i64 a0, .int .i64 a1] w fun e w' => e = .returned (.int .i64 r) ∧ Drawn0 w w' := by
  have H : (if a1 = 0 then (none) else (if (Int.tmod a0 a1) < 0 then (some (wrap64 ((Int.tmod a0 a1) + a1))) else (some (Int.tmod a0 a1)))) = some r := h
  clear h
  by_cases c3 : a1 = 0
  · rw [if_pos c3] at H
    exact absurd H (by simp)
  · rw [if_neg c3] at H
    have c3b0 : (a1 == 0) = false := beq_eq_false_iff_ne.mpr c3
    have c3b1 : (a1 != 0) = true := bne_iff_ne.mpr c3
    by_cases c4 : (Int.tmod a0 a1) < 0
    · rw [if_pos c4] at H
      have c4b0 : decide ((Int.tmod a0 a1) < 0) = true := decide_eq_true c4
      clear c4
      obtain rfl := Option.some.inj H
      go_enter Try.func84, Try.ntmps84
      go_wp2
      go_ret
      exact ⟨by first | rfl | (simp; done) | (simp [*]; done), by repeat (first | exact Drawn0.refl _ | apply Drawn0.step)⟩
    · rw [if_neg c4] at H
      have c4b0 : decide ((Int.tmod a0 a1) < 0) = false := decide_eq_false c4
      clear c4
      obtain rfl := Option.some.inj H
      go_enter Try.func84, Try.ntmps84
      go_wp2
      go_ret
      exact ⟨by first | rfl | (simp; done) | (simp [*]; done), by repeat (first | exact Drawn0.refl _ | apply Drawn0.step)⟩

/-! ### letterpresslaw2_within: function 81 -/
def letterpresslaw2_within.f (a0 : Int) (a1 : Int) : Option (Int) := if a1 = 0 then (none) else (if (Int.tmod a0 a1) < 0 then (some (wrap64 ((Int.tmod a0 a1) + a1))) else (some (Int.tmod a0 a1)))
set_option maxHeartbeats 8000000 in
set_option maxRecDepth 100000 in
theorem letterpresslaw2_within.calls (a0 : Int) (a1 : Int) (r : Int) (w : World) (h : letterpresslaw2_within.f a0 a1 = some r) :
    Calls Try.prog 81 #[.int .i64 a0, .int .i64 a1] w fun e w' => e = .returned (.int .i64 r) ∧ Drawn0 w w' := by
  have H : (if a1 = 0 then (none) else (if (Int.tmod a0 a1) < 0 then (some (wrap64 ((Int.tmod a0 a1) + a1))) else (some (Int.tmod a0 a1)))) = some r := h
  clear h
  by_cases c3 : a1 = 0
  · rw [if_pos c3] at H
    exact absurd H (by simp)
  · rw [if_neg c3] at H
    have c3b0 : (a1 == 0) = false := beq_eq_false_iff_ne.mpr c3
    have c3b1 : (a1 != 0) = true := bne_iff_ne.mpr c3
    by_cases c4 : (Int.tmod a0 a1) < 0
    · rw [if_pos c4] at H
      have c4b0 : decide ((Int.tmod a0 a1) < 0) = true := decide_eq_true c4
      clear c4
      obtain rfl := Option.some.inj H
      go_enter Try.func81, Try.ntmps81
      go_wp2
      go_ret
      exact ⟨by first | rfl | (simp; done) | (simp [*]; done), by repeat (first | exact Drawn0.refl _ | apply Drawn0.step)⟩
    · rw [if_neg c4] at H
      have c4b0 : decide ((Int.tmod a0 a1) < 0) = false := decide_eq_false c4
      clear c4
      obtain rfl := Option.some.inj H
      go_enter Try.func81, Try.ntmps81
      go_wp2
      go_ret
      exact ⟨by first | rfl | (simp; done) | (simp [*]; done), by repeat (first | exact Drawn0.refl _ | apply Drawn0.step)⟩

/-! ### letterpressref3_Digits: function 59 -/
def letterpressref3_Digits.f : Nat → Int → Option (ByteArray)
  | 0, _ => none
  | k + 1, a0 => if a0 < 0 then ((letterpressref3_Digits.f k (wrap64 (-a0))).bind fun t148 => (if 1 + t148.size ≤ 9223372036854775807 then (some ((⟨#[45]⟩ : ByteArray) ++ t148)) else (none))) else (if a0 ≥ 10 then ((letterpressref3_Digits.f k (wrap64 (Int.tdiv a0 10))).bind fun t149 => ((letterpressref3_Digits.f k (Int.tmod a0 10)).bind fun t150 => (if t149.size + t150.size ≤ 9223372036854775807 then (some (t149 ++ t150)) else (none)))) else (some (strOfNums (([(wrap64 (48 + a0)) % 256] : List Int)))))
theorem letterpressref3_Digits.mono_l : ∀ k, (∀ y0, LeO (letterpressref3_Digits.f k y0) (letterpressref3_Digits.f (k + 1) y0))
  | 0 => fun _ r h => by simp [letterpressref3_Digits.f] at h
  | k + 1 => by
    have ih0 := letterpressref3_Digits.mono_l k
    · intro y0
      unfold letterpressref3_Digits.f
      repeat' first
      | (with_reducible exact ih0 _)
      | (with_reducible exact LeO.refl _)
      | (with_reducible exact LeO.none _)
      | (with_reducible refine LeO.ite ?_ ?_)
      | (with_reducible refine LeO.bind ?_ (fun _ => ?_))
      | exact ih0 _
      | exact LeO.none _
      | refine LeO.ite ?_ ?_
      | refine LeO.bind ?_ (fun _ => ?_)
theorem letterpressref3_Digits.mono : ∀ a0 k, LeO (letterpressref3_Digits.f k a0) (letterpressref3_Digits.f (k + 1) a0) := by
  intro a0 k
  have ih0 := letterpressref3_Digits.mono_l k
  exact ih0 a0
set_option maxHeartbeats 8000000 in
set_option maxRecDepth 100000 in
theorem letterpressref3_Digits.calls (k : Nat) : ∀ (a0 : Int) (r : ByteArray) (w : World) (h : letterpressref3_Digits.f k a0 = some r),
    Calls Try.prog 59 #[.int .i64 a0] w fun e w' => e = .returned (.string r) ∧ Below w.heap.size w w' := by
  induction k using Nat.strongRecOn with
  | _ k ih =>
  intro a0 r w h
  cases k with
  | zero => exact absurd h (by simp [letterpressref3_Digits.f])
  | succ k =>
  simp only [letterpressref3_Digits.f] at h
  have HB := Aside0.mk (Below.refl w.heap.size w)
  have H : (if a0 < 0 then ((letterpressref3_Digits.f k (wrap64 (-a0))).bind fun t148 => (if 1 + t148.size ≤ 9223372036854775807 then (some ((⟨#[45]⟩ : ByteArray) ++ t148)) else (none))) else (if a0 ≥ 10 then ((letterpressref3_Digits.f k (wrap64 (Int.tdiv a0 10))).bind fun t149 => ((letterpressref3_Digits.f k (Int.tmod a0 10)).bind fun t150 => (if t149.size + t150.size ≤ 9223372036854775807 then (some (t149 ++ t150)) else (none)))) else (some (strOfNums (([(wrap64 (48 + a0)) % 256] : List Int)))))) = some r := h
  clear h
  by_cases c2 : a0 < 0
  · rw [if_pos c2] at H
    have c2b0 : decide (a0 < 0) = true := decide_eq_true c2
    clear c2
    replace H := Option.bind_eq_some_iff.mp H
    obtain ⟨t148, A30, H⟩ := H
    replace H : (if 1 + t148.size ≤ 9223372036854775807 then (some ((⟨#[45]⟩ : ByteArray) ++ t148)) else (none)) = some r := H
    have A3 := Aside0.mk A30
    clear A30
    by_cases c4 : 1 + t148.size ≤ 9223372036854775807
    · rw [if_pos c4] at H
      have c4b0 := eq_true c4
      have c4b1 : decide (1 + t148.size ≤ 9223372036854775807) = true := decide_eq_true c4
      try have c4b2 : (9223372036854775807 < 1 + t148.size) = False := eq_false (Nat.not_lt.2 c4)
      obtain rfl := Option.some.inj H
      go_enter Try.func59, Try.ntmps59
      go_wp2_with (first | ((with_reducible refine gate_callee (f := 59) rfl ?_); refine goesL_ (some 7) rfl rfl Try.func59 (by kernel_rfl) rfl #[.int .i64 (wrap64 (-a0))] rfl (by (try simp only [List.map_toArray, List.map_cons, List.map_nil]); first | done | rfl | (simp only [List.length_drop, List.length_take]; rfl)) ?_; (with_reducible refine (ih k (by omega) (wrap64 (-a0)) t148 _ A3.out).mono ?_); rintro e w5 ⟨rfl, hb⟩; refine ⟨_, rfl, ?_⟩; have n0_ := Aside0.mk (below_step (by repeat (first | (with_reducible first | exact HB.out | apply below_alloc | apply pw_below_drewN | apply below_drew1) | exact HB.out)) hb); clear HB; have HB := n0_; clear n0_; (try clear hb); (try clear hb2); (try clear hk); (try clear hi)))
      go_ret
      exact ⟨by first | rfl | (simp [errW_none, errW_some] <;> rfl) | (simp [*, errW_none, errW_some] <;> rfl), by repeat (first | (with_reducible first | exact HB.out | apply below_alloc | apply pw_below_drewN | apply below_drew1) | exact HB.out)⟩
    · rw [if_neg c4] at H
      exact absurd H (by simp)
  · rw [if_neg c2] at H
    have c2b0 : decide (a0 < 0) = false := decide_eq_false c2
    clear c2
    by_cases c6 : a0 ≥ 10
    · rw [if_pos c6] at H
      have c6b0 : decide (10 ≤ a0) = true := decide_eq_true c6
      clear c6
      replace H := Option.bind_eq_some_iff.mp H
      obtain ⟨t149, A70, H⟩ := H
      replace H : ((letterpressref3_Digits.f k (Int.tmod a0 10)).bind fun t150 => (if t149.size + t150.size ≤ 9223372036854775807 then (some (t149 ++ t150)) else (none))) = some r := H
      have A7 := Aside0.mk A70
      clear A70
      replace H := Option.bind_eq_some_iff.mp H
      obtain ⟨t150, A80, H⟩ := H
      replace H : (if t149.size + t150.size ≤ 9223372036854775807 then (some (t149 ++ t150)) else (none)) = some r := H
      have A8 := Aside0.mk A80
      clear A80
      by_cases c9 : t149.size + t150.size ≤ 9223372036854775807
      · rw [if_pos c9] at H
        have c9b0 := eq_true c9
        have c9b1 : decide (t149.size + t150.size ≤ 9223372036854775807) = true := decide_eq_true c9
        try have c9b2 : (9223372036854775807 < t149.size + t150.size) = False := eq_false (Nat.not_lt.2 c9)
        obtain rfl := Option.some.inj H
        go_enter Try.func59, Try.ntmps59
        go_wp2_with (first | ((with_reducible refine gate_callee (f := 59) rfl ?_); refine goesL_ (some 13) rfl rfl Try.func59 (by kernel_rfl) rfl #[.int .i64 (wrap64 (Int.tdiv a0 10))] rfl (by (try simp only [List.map_toArray, List.map_cons, List.map_nil]); first | done | rfl | (simp only [List.length_drop, List.length_take]; rfl)) ?_; (with_reducible refine (ih k (by omega) (wrap64 (Int.tdiv a0 10)) t149 _ A7.out).mono ?_); rintro e w10 ⟨rfl, hb⟩; refine ⟨_, rfl, ?_⟩; have n0_ := Aside0.mk (below_step (by repeat (first | (with_reducible first | exact HB.out | apply below_alloc | apply pw_below_drewN | apply below_drew1) | exact HB.out)) hb); clear HB; have HB := n0_; clear n0_; (try clear hb); (try clear hb2); (try clear hk); (try clear hi)) | ((with_reducible refine gate_callee (f := 59) rfl ?_); refine goesL_ (some 16) rfl rfl Try.func59 (by kernel_rfl) rfl #[.int .i64 (Int.tmod a0 10)] rfl (by (try simp only [List.map_toArray, List.map_cons, List.map_nil]); first | done | rfl | (simp only [List.length_drop, List.length_take]; rfl)) ?_; (with_reducible refine (ih k (by omega) (Int.tmod a0 10) t150 _ A8.out).mono ?_); rintro e w11 ⟨rfl, hb⟩; refine ⟨_, rfl, ?_⟩; have n0_ := Aside0.mk (below_step (by repeat (first | (with_reducible first | exact HB.out | apply below_alloc | apply pw_below_drewN | apply below_drew1) | exact HB.out)) hb); clear HB; have HB := n0_; clear n0_; (try clear hb); (try clear hb2); (try clear hk); (try clear hi)))
        go_ret
        exact ⟨by first | rfl | (simp [errW_none, errW_some] <;> rfl) | (simp [*, errW_none, errW_some] <;> rfl), by repeat (first | (with_reducible first | exact HB.out | apply below_alloc | apply pw_below_drewN | apply below_drew1) | exact HB.out)⟩
      · rw [if_neg c9] at H
        exact absurd H (by simp)
    · rw [if_neg c6] at H
      have c6b0 : decide (10 ≤ a0) = false := decide_eq_false c6
      clear c6
      obtain ⟨y151, hy151⟩ : ∃ y_ : List Int, y_ = (([(wrap64 (48 + a0)) % 256] : List Int)) := ⟨_, rfl⟩
      replace H : (some (strOfNums y151)) = some r := by first | (rw [hy151]; with_reducible exact H) | (have H2_ := (Option.bind_some _ _).symm.trans H; rw [hy151]; with_reducible exact H2_) | (have H2_ := (Option.bind_some _ _).symm.trans H; with_reducible exact H2_) | with_reducible exact H | (rw [hy151]; exact H) | exact H
      have Ny151 := Aside0.mk hy151
      clear hy151
      obtain rfl := Option.some.inj H
      go_enter Try.func59, Try.ntmps59
      go_wp2_with (first | ((with_reducible refine gate_dst (N := 21) rfl ?_); refine Kd.R_lit (Kd.int .u8) _ 5 ?hg (N := 21) ?hd (xs := ([(wrap64 (48 + a0)) % 256] : List Int)) (inner := [.int .u8 ((wrap64 (48 + a0)) % 256)]) (ok := fun _ => True) (okp := fun _ => True) ?hr ?hp (fun _ hk => hk) trivial (Below.refl _ _) (Nat.le_refl _) (by simp) ?_; (case hd => rfl); (case hg => rfl); (case hr => first | (go_simp; done) | (go_simp; rfl)); (case hp => exact (Reps.one (show Kd.M (Kd.int .u8) _ _ _ ((wrap64 (48 + a0)) % 256) [.int .u8 ((wrap64 (48 + a0)) % 256)] from rfl) (Reps.none _ _))); intro v152 w12 ho13 hb hg_ hnew_; clear hg_ hnew_; (first | rw [← Ny151.out] at ho13 | (simp only [Int.reduceToNat] at ho13; rw [← Ny151.out] at ho13)); have n0_ := Aside0.mk (Kd.R_lower ho13 (below_size (by repeat (first | (with_reducible first | exact HB.out | apply below_alloc | apply pw_below_drewN | apply below_drew1) | exact HB.out)))); have n1_ := Aside0.mk (below_step (by repeat (first | (with_reducible first | exact HB.out | apply below_alloc | apply pw_below_drewN | apply below_drew1) | exact HB.out)) hb); clear HB; have HO153 := n0_; have HB := n1_; clear n0_ n1_; clear hb ho13; have hcv14 := own_string (P := Try.prog) Try.underlying23 Try.underlying5 Try.underlying9 (Kd.own_of_R HO153.out)))
      go_ret
      exact ⟨by first | rfl | (simp [errW_none, errW_some] <;> rfl) | (simp [*, errW_none, errW_some] <;> rfl), by repeat (first | (with_reducible first | exact HB.out | apply below_alloc | apply pw_below_drewN | apply below_drew1) | exact HB.out)⟩

end Go.Proofs.Ytifdkkkcecpjoaa.Tx
end
section
/-
  The digits of numbers: what Digits answers.
-/
namespace Go.Proofs.Ytifdkkkcecpjoaa
set_option linter.unusedVariables false
set_option linter.unusedSimpArgs false
open Go.RowKit Go.Proofs.YtifdkkkcecpjoaaW.PrintWords Tx

def digsN (n : Nat) : List Nat := if h : 10 ≤ n then digsN (n / 10) ++ [48 + n % 10] else [48 + n]
termination_by n
decreasing_by omega
theorem ofN_append (a b : List Nat) : ofN a ++ ofN b = ofN (a ++ b) := by
  apply ByteArray.ext
  apply Array.ext'
  simp [ofN]
theorem digsN_len : ∀ (m n : Nat), n < 10 ^ (m + 1) → (digsN n).length ≤ m + 1 ∧ 1 ≤ (digsN n).length
  | 0, n, h => by
    rw [digsN, dif_neg (by omega)]
    simp
  | m + 1, n, h => by
    rw [digsN]
    split
    · have := digsN_len m (n / 10) (by rw [Nat.pow_succ] at h; omega)
      rw [List.length_append]
      simp
      omega
    · simp
theorem digsN_dig : ∀ (n : Nat), ∀ c ∈ digsN n, 48 ≤ c ∧ c ≤ 57 := by
  intro n
  induction n using Nat.strongRecOn with
  | _ n ih =>
    intro c hc
    rw [digsN] at hc
    split at hc
    · rcases List.mem_append.1 hc with h | h
      · exact ih (n / 10) (by omega) c h
      · simp at h; omega
    · simp at hc; omega
def valN (l : List Nat) : Nat := l.foldl (fun a c => 10 * a + (c - 48)) 0
theorem valN_digs : ∀ (n : Nat), valN (digsN n) = n := by
  intro n
  induction n using Nat.strongRecOn with
  | _ n ih =>
    rw [digsN]
    split
    · have := ih (n / 10) (by omega)
      unfold valN at this ⊢
      rw [List.foldl_append, this]
      simp
      omega
    · simp [valN]
theorem digits_lift {a : Int} {k k' : Nat} {r : ByteArray} (h : letterpressref3_Digits.f k a = some r) (hk : k ≤ k') : letterpressref3_Digits.f k' a = some r :=
  at_rounds (g := fun k => letterpressref3_Digits.f k a) (fun k => letterpressref3_Digits.mono a k) hk h
theorem digits_one (n : Nat) (h : n < 10) (k : Nat) : letterpressref3_Digits.f (k + 1) (n : Int) = some (ofN [48 + n]) := by
  rw [letterpressref3_Digits.f, if_neg (by omega), if_neg (by omega)]
  have hw : wrap64 (48 + (n : Int)) % 256 = 48 + (n : Int) := by unfold wrap64; omega
  rw [hw]
  rcases (show n = 0 ∨ n = 1 ∨ n = 2 ∨ n = 3 ∨ n = 4 ∨ n = 5 ∨ n = 6 ∨ n = 7 ∨ n = 8 ∨ n = 9 by omega) with rfl | rfl | rfl | rfl | rfl | rfl | rfl | rfl | rfl | rfl <;> rfl
theorem digits_nat : ∀ (n : Nat), n ≤ 9223372036854775807 → ∃ k, letterpressref3_Digits.f k (n : Int) = some (ofN (digsN n)) := by
  intro n
  induction n using Nat.strongRecOn with
  | _ n ih =>
    intro hn
    by_cases h : 10 ≤ n
    · obtain ⟨k, hk⟩ := ih (n / 10) (by omega) (by omega)
      refine ⟨k + 1 + 1, ?_⟩
      rw [letterpressref3_Digits.f, if_neg (by omega), if_pos (by omega)]
      have e1 : wrap64 (Int.tdiv (n : Int) 10) = ((n / 10 : Nat) : Int) := by
        rw [Int.tdiv_eq_ediv_of_nonneg (by omega)]
        unfold wrap64
        omega
      have e2 : Int.tmod (n : Int) 10 = ((n % 10 : Nat) : Int) := by
        rw [Int.tmod_eq_emod_of_nonneg (by omega)]
        omega
      rw [e1, e2, digits_lift hk (show k ≤ k + 1 by omega)]
      simp only [Option.bind_some]
      rw [digits_one (n % 10) (by omega)]
      simp only [Option.bind_some]
      have l1 := (digsN_len 18 (n / 10) (by omega)).1
      rw [if_pos (by rw [ofN_size, ofN_size]; simp; omega), ofN_append]
      conv => rhs; rw [digsN, dif_pos h]
    · rw [digsN, dif_neg h]
      exact ⟨1, digits_one n (by omega) 0⟩
/-- The signs of a number. -/
def sigN (a : Int) : List Nat := if a < 0 then 45 :: digsN a.natAbs else digsN a.natAbs
theorem sigN_len {a : Int} (h0 : -9223372036854775807 ≤ a) (h1 : a ≤ 9223372036854775807) : (sigN a).length ≤ 20 ∧ 1 ≤ (sigN a).length := by
  have := digsN_len 18 a.natAbs (by omega)
  unfold sigN
  split
  · simp; omega
  · omega
theorem digits_any {a : Int} (h0 : -9223372036854775807 ≤ a) (h1 : a ≤ 9223372036854775807) : ∃ k, letterpressref3_Digits.f k a = some (ofN (sigN a)) := by
  unfold sigN
  by_cases h : a < 0
  · rw [if_pos h]
    obtain ⟨k, hk⟩ := digits_nat a.natAbs (by omega)
    refine ⟨k + 1, ?_⟩
    have e1 : wrap64 (-a) = (a.natAbs : Int) := by unfold wrap64; omega
    rw [letterpressref3_Digits.f, if_pos h, e1, hk]
    simp only [Option.bind_some]
    have l1 := (digsN_len 18 a.natAbs (by omega)).1
    rw [if_pos (by rw [ofN_size]; omega)]
    have : ((⟨#[45]⟩ : ByteArray)) = ofN [45] := rfl
    rw [this, ofN_append]
    rfl
  · rw [if_neg h]
    have e : a = (a.natAbs : Int) := by omega
    obtain ⟨k, hk⟩ := digits_nat a.natAbs (by omega)
    rw [← e] at hk
    exact ⟨k, hk⟩
def DigEnd (a : Int) (w : World) (e : Ending) (w' : World) : Prop := e = .returned (.string (ofN (sigN a))) ∧ Below w.heap.size w w'
theorem dig_call {a : Int} (h0 : -9223372036854775807 ≤ a) (h1 : a ≤ 9223372036854775807) (w : World) : Calls Try.prog 59 #[.int .i64 a] w (DigEnd a w) := by
  obtain ⟨k, hk⟩ := digits_any h0 h1
  exact letterpressref3_Digits.calls k a _ w hk
end Go.Proofs.Ytifdkkkcecpjoaa
end
