/-
  Rows of requests: their cells, their bytes one behind the other, and how these are read.
-/
import Derived.Test.YtifdkkkcecpjoaaQ5
namespace Go.Proofs.Ytifdkkkcecpjoaa
set_option linter.unusedVariables false
set_option linter.unusedSimpArgs false
open Go.RowKit
def NumsW (w : World) (a : Option Addr) (len : Nat) (zs : List Int) : Prop := 0 < len → ∃ x, a = some x ∧ (∀ i, i < len → w.cell? (x.add i) = some (.int .i64 (zs.getD i 0))) ∧ ∀ i, i < len → -9223372036854775808 ≤ zs.getD i 0 ∧ zs.getD i 0 ≤ 9223372036854775807
theorem numsw_of_row {w : World} {a : Option Addr} {len cap : Nat} {zs : List Int}
    (h : (a = none ∧ len = 0 ∧ cap = 0 ∧ zs = []) ∨ ∃ x, a = some x ∧ len ≤ cap ∧ cap ≤ maxLen ∧ zs.length = cap ∧ (∀ i, i < zs.length → w.cell? (x.add i) = some (.int .i64 (zs.getD i 0))) ∧ ∀ n ∈ zs, (Lit.int .i64 n).wf = true) :
    NumsW w a len zs ∧ len ≤ maxLen := by
  rcases h with ⟨rfl, rfl, rfl, rfl⟩ | ⟨x, rfl, h1, h2, h3, h4, h5⟩
  · exact ⟨fun h => absurd h (by omega), Nat.zero_le _⟩
  · refine ⟨fun _ => ⟨x, rfl, fun i hi => h4 i (by omega), fun i hi => ?_⟩, by omega⟩
    have hl : i < zs.length := by omega
    have e : zs.getD i 0 = zs[i] := by simp [List.getD, hl]
    have hw := h5 zs[i] (List.getElem_mem hl)
    simp [Lit.wf, IntKind.min, IntKind.max, IntKind.signed, IntKind.bits] at hw
    rw [e]; omega
structure W4 where
  k : Int
  s : ByteArray
  t : ByteArray
  x : Int
def W4.rq (r : W4) : Rq := rqOfV r.k r.s r.t r.x
def W4.cells (r : W4) : List Value := [.int .i64 r.k, .string r.s, .string r.t, .int .i64 r.x]
def cells4 (ws : List W4) : List Value := ws.flatMap W4.cells
def encs4 (ws : List W4) : List UInt8 := ws.flatMap (fun r => r.rq.enc)
structure Ok4 (r : W4) : Prop where
  right : r.rq.right = true
  s : r.s.size ≤ 12
  t : r.t.size ≤ 600
theorem cells4_append (a b : List W4) : cells4 (a ++ b) = cells4 a ++ cells4 b := by simp [cells4]
theorem encs4_append (a b : List W4) : encs4 (a ++ b) = encs4 a ++ encs4 b := by simp [encs4]
theorem encs4_cons (r : W4) (b : List W4) : encs4 (r :: b) = r.rq.enc ++ encs4 b := by simp [encs4]
theorem cells4_len : ∀ ws : List W4, (cells4 ws).length = ws.length * 4
  | [] => rfl
  | r :: ws => by
    have := cells4_len ws
    simp only [cells4, List.flatMap_cons, List.length_append, List.length_cons] at *
    rw [this]
    show 4 + ws.length * 4 = (ws.length + 1) * 4
    omega
theorem cells4_one (ws : List W4) : ∀ u ∈ cells4 ws, u.oneCell' = true := by
  intro u hu
  simp only [cells4, List.mem_flatMap, W4.cells] at hu
  obtain ⟨r, -, hr⟩ := hu
  simp at hr
  rcases hr with rfl | rfl | rfl | rfl <;> rfl
theorem split_at {ws : List W4} {i : Nat} {r : W4} (h : ws[i]? = some r) : ws = ws.take i ++ r :: ws.drop (i + 1) := by
  obtain ⟨hi, hr⟩ := List.getElem?_eq_some_iff.1 h
  rw [← hr, ← List.drop_eq_getElem_cons hi, List.take_append_drop]
theorem cells4_get {ws : List W4} {i : Nat} {r : W4} (h : ws[i]? = some r) {j : Nat} {u : Value} (hu : r.cells[j]? = some u) : (cells4 ws)[i * 4 + j]? = some u := by
  obtain ⟨hi, hr⟩ := List.getElem?_eq_some_iff.1 h
  rw [split_at h, cells4_append, List.getElem?_append_right (by rw [cells4_len, List.length_take]; omega), cells4_len, List.length_take, Nat.min_eq_left (by omega), Nat.add_sub_cancel_left]
  have hj := (List.getElem?_eq_some_iff.1 hu).1
  show (r.cells ++ cells4 _)[j]? = some u
  rw [List.getElem?_append_left hj, hu]
theorem enc_le {r : W4} (h : Ok4 r) : r.rq.enc.length ≤ 700 ∧ 2 ≤ r.rq.enc.length := by
  have := body_length h.right
  rw [enc_length]
  omega
theorem encs4_le : ∀ ws : List W4, (∀ r ∈ ws, Ok4 r) → (encs4 ws).length ≤ 700 * ws.length
  | [], _ => by simp [encs4]
  | r :: ws, h => by
    have h1 := encs4_le ws (fun q hq => h q (List.mem_cons_of_mem _ hq))
    have h2 := (enc_le (h r (List.mem_cons_self))).1
    rw [encs4_cons, List.length_append, List.length_cons]
    omega
theorem encs4_last {ws : List W4} {r : W4} (h : ws.getLast? = some r) : r.rq.enc.length ≤ (encs4 ws).length := by
  obtain ⟨ys, rfl⟩ := List.getLast?_eq_some_iff.1 h
  rw [encs4_append, encs4_cons, List.length_append, List.length_append]
  omega
/-- How the i-th of them is read, the last k bytes cut off. -/
theorem read_at {ws : List W4} {i k : Nat} {r q : W4} (h : ws[i]? = some r) (hq : ws.getLast? = some q) (hk : k < q.rq.enc.length) (hok : ∀ r ∈ ws, Ok4 r) (hik : i + 1 < ws.length ∨ k = 0) :
    rqRead (((encs4 ws).take ((encs4 ws).length - k)).drop (encs4 (ws.take i)).length) = (r.rq, r.rq.enc.length, 0) ∧ (encs4 (ws.take i)).length + r.rq.enc.length ≤ (encs4 ws).length - k := by
  have hs := split_at h
  have hr := hok r (List.mem_of_getElem? h)
  obtain ⟨pre, hpre⟩ : ∃ pre, pre = ws.take i := ⟨_, rfl⟩
  obtain ⟨post, hpost⟩ : ∃ post, post = ws.drop (i + 1) := ⟨_, rfl⟩
  rw [← hpre, ← hpost] at hs
  rw [← hpre]
  have hlen : (encs4 ws).length = (encs4 pre).length + (r.rq.enc.length + (encs4 post).length) := by
    rw [hs, encs4_append, encs4_cons, List.length_append, List.length_append]
  have hkp : k ≤ (encs4 post).length := by
    rcases hik with hi | rfl
    · have hp : post.getLast? = some q := by
        have hne : post ≠ [] := by
          intro h0
          have := congrArg List.length hpost
          rw [h0, List.length_drop] at this
          simp at this
          omega
        rw [← hq, hs, List.getLast?_append]
        rw [List.getLast?_cons_of_ne_nil hne]
        cases hg : post.getLast? with
        | none => exact absurd (List.getLast?_eq_none_iff.1 hg) hne
        | some z => rfl
      have := encs4_last hp
      omega
    · exact Nat.zero_le _
  refine ⟨?_, by omega⟩
  rw [List.drop_take, hs, encs4_append, encs4_cons, List.drop_left, List.take_append]
  have hn : (encs4 pre ++ (r.rq.enc ++ encs4 post)).length - k - (encs4 pre).length = r.rq.enc.length + ((encs4 post).length - k) := by
    rw [List.length_append, List.length_append]
    omega
  rw [hn, List.take_of_length_le (by omega)]
  exact rqRead_enc hr.right _
theorem read_cut {ws : List W4} {i k : Nat} {r q : W4} (h : ws[i]? = some r) (hq : ws.getLast? = some q) (hk : k < q.rq.enc.length) (hok : ∀ r ∈ ws, Ok4 r) (hi : i + 1 = ws.length) (h0 : 0 < k) :
    rqRead (((encs4 ws).take ((encs4 ws).length - k)).drop (encs4 (ws.take i)).length) = (noRq, 0, 0) := by
  have hs := split_at h
  have hr := hok r (List.mem_of_getElem? h)
  have hd : ws.drop (i + 1) = [] := List.drop_eq_nil_of_le (by omega)
  rw [hd] at hs
  obtain ⟨pre, hpre⟩ : ∃ pre, pre = ws.take i := ⟨_, rfl⟩
  rw [← hpre] at hs
  rw [← hpre]
  have hrq : r = q := by
    have : ws.getLast? = some r := by rw [hs]; simp
    rw [this] at hq
    exact Option.some.inj hq
  subst hrq
  have hn : (encs4 ws).length - k - (encs4 pre).length = r.rq.enc.length - k := by
    rw [hs, encs4_append, encs4_cons, List.length_append, List.length_append]
    show _ + (_ + 0) - k - _ = _
    omega
  rw [List.drop_take, hn, hs, encs4_append, encs4_cons, List.drop_left]
  show rqRead ((r.rq.enc ++ []).take _) = _
  rw [List.append_nil]
  exact rqRead_cut hr.right (by omega)
theorem wrap_succ {n : Nat} (h : n ≤ 1000) : wrap64 ((n : Int) + 1) = ((n + 1 : Nat) : Int) := by unfold wrap64; omega
theorem meas12 {n : Nat} (h : n < 12) : 13 - (intOf (.int .i64 ((n : Int) + 1))).toNat < 13 - (intOf (.int .i64 (n : Int))).toNat := by simp [intOf]; omega
theorem own_below {B e k n : Nat} {v : Value} {xs : List Value} {w w' : World} (h : w.ownsRow B e k v n xs) (hb : Below w.heap.size w w') : w'.ownsRow B e k v n xs := by
  refine ⟨h.1, ?_⟩
  rcases h.2 with h0 | ⟨g, cap, cur, rfl, h1, h2, h3⟩
  · exact .inl h0
  · exact .inr ⟨g, cap, cur, rfl, h1, (hb.block g (Array.getElem?_eq_some_iff.1 h2).1).trans h2, h3⟩
theorem own_beside {B e k n B' e' k' n' : Nat} {v v' : Value} {xs xs' : List Value} {w w' : World} (h : w.ownsRow B e k v n xs) (h' : w.ownsRow B' e' k' v' n' xs') (hne : e ≠ e') (hg : w.grownBy w' v'.ownBlock) : w'.ownsRow B e k v n xs := by
  refine ⟨h.1, ?_⟩
  rcases h.2 with h0 | ⟨g, cap, cur, rfl, h1, h2, h3⟩
  · exact .inl h0
  · refine .inr ⟨g, cap, cur, rfl, h1, (hg.block g (Array.getElem?_eq_some_iff.1 h2).1 (fun he => ?_)).trans h2, h3⟩
    rcases h'.2 with ⟨rfl, -⟩ | ⟨g', cap', cur', rfl, -, h4, -⟩
    · cases he
    · have hgg : g = g' := by injection he
      subst hgg
      rw [h2] at h4
      injection h4 with h4
      injection h4 with _ h4
      exact hne h4
theorem own_under {B e k n : Nat} {v : Value} {xs : List Value} {w : World} (h : w.ownsRow B e k v n xs) {g : Nat} (hg : w.heap.size ≤ g) : some g ≠ v.ownBlock := by
  rcases h.2 with ⟨rfl, -⟩ | ⟨g', cap, cur, rfl, -, h2, -⟩
  · intro he; cases he
  · intro he
    have : g = g' := by injection he
    have := (Array.getElem?_eq_some_iff.1 h2).1
    omega
theorem info27 : (Try.prog.info? 27).map (fun i => (i.zero, i.size, i.bytes)) = some (some (.agg #[.int .i64 0, .string ⟨#[]⟩, .string ⟨#[]⟩, .int .i64 0]), 4, 48) := by kernel_rfl
structure LoopR (w wr : World) (ws : List W4) (sb sw : Value) : Prop where
  b : wr.ownsRow w.heap.size 5 1 sb (encs4 ws).length (bv (encs4 ws))
  r : wr.ownsRow w.heap.size 27 4 sw ws.length (cells4 ws)
  bel : Below w.heap.size w wr
  ok : ∀ r ∈ ws, Ok4 r
theorem Sl.front {w : World} {B n c k : Nat} {A : Option Addr} {l : List UInt8} (h : Sl w B A n c l) (hk : k ≤ n) : Sl w B A k c (l.take k) :=
  ⟨(h.head hk).len, Nat.le_trans hk h.cap, h.max, (h.head hk).rd⟩
end Go.Proofs.Ytifdkkkcecpjoaa
