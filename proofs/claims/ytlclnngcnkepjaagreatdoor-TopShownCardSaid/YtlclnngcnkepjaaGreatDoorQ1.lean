/- A part of the proof of the law of TopAcross: AeA, AeB, AeC, AeD, AeE, AeF, AeG, AeH. -/
import Derived.Orders
import Derived.Defers
import Derived.ScopeJumps
import Derived.Deep.MidRow
import Derived.Laws.Append
import Derived.Laws.AppendOwn
import Derived.Laws.Entries
import Derived.Lib.Strings
namespace Go.Ae
open Go

inductive AV where
  | b (x : Bool)
  | i (k : IntKind) (n : Int)
  | f (k : FloatKind) (bits : Nat)
  | s (l : List UInt8)
  | pn
  | p (n o : Nat)
  | sn
  | sl (n o len cap : Nat)
  | so (n o e len : Nat)
  | se (z : Bool) (n : Nat)
  | mn
  | m (n : Nat)
  | fn (f : Fn) (first cap : List AV)
  | fnil
  | ifc (t : Nat) (v : AV)
  | inil
  | ag (l : List AV)
  | tu (l : List AV)
  | sym (k : Nat)
  | ve (l : List Value)
  | st (l : List AV)
  | rs (n i j : Nat) (x : Bool)
  | rp (n i : Nat)
  | pl (n : Nat) (l : List Nat)
  | ln (a : Int) (l : List Nat) (q k : Nat)
  | g (k : Nat)
  | z (l : List Nat)

noncomputable def numV : Value → Bool
  | .int _ _ | .float _ _ => true
  | _ => false

/-- Plain values, compared. -/
noncomputable def vbeq : Value → Value → Bool
  | .bool x, .bool y => x == y
  | .int k n, .int k' n' => k == k' && n == n'
  | .float k n, .float k' n' => k == k' && n == n'
  | _, _ => false

noncomputable def vbeqs : List Value → List Value → Bool
  | [], [] => true
  | x :: r, y :: r' => vbeq x y && vbeqs r r'
  | _, _ => false

mutual
noncomputable def AV.beq : AV → AV → Bool
  | .b x, .b y => x == y
  | .i x y, .i x' y' => x == x' && y == y'
  | .f x y, .f x' y' => x == x' && y == y'
  | .s x, .s y => x == y
  | .pn, .pn | .sn, .sn | .mn, .mn | .fnil, .fnil | .inil, .inil => true
  | .p x y, .p x' y' => x == x' && y == y'
  | .sl x y c1 w, .sl x' y' c2 w' => x == x' && y == y' && c1 == c2 && w == w'
  | .so x y c1 w, .so x' y' c2 w' => x == x' && y == y' && c1 == c2 && w == w'
  | .se x y, .se x' y' => x == x' && y == y'
  | .m x, .m y => x == y
  | .fn x y c1, .fn x' y' c2 => x == x' && AV.beqs y y' && AV.beqs c1 c2
  | .ifc x y, .ifc x' y' => x == x' && AV.beq y y'
  | .ag x, .ag y => AV.beqs x y
  | .tu x, .tu y => AV.beqs x y
  | .sym x, .sym y => x == y
  | .ve x, .ve y => vbeqs x y
  | .st x, .st y => AV.beqs x y
  | .rs x y c1 w, .rs x' y' c2 w' => x == x' && y == y' && c1 == c2 && w == w'
  | .rp x y, .rp x' y' => x == x' && y == y'
  | .pl x y, .pl x' y' => x == x' && y == y'
  | .ln x y c1 w, .ln x' y' c2 w' => x == x' && y == y' && c1 == c2 && w == w'
  | .g x, .g y => x == y
  | .z x, .z y => x == y
  | _, _ => false
noncomputable def AV.beqs : List AV → List AV → Bool
  | [], [] => true
  | x :: r, y :: r' => AV.beq x y && AV.beqs r r'
  | _, _ => false
end

inductive Tr (α : Type) where
  | e
  | n (l : Tr α) (v : Option α) (r : Tr α)

inductive Pa where
  | z
  | l (p : Pa)
  | r (p : Pa)

noncomputable def pathF : Nat → Nat → Pa
  | 0, _ => .z
  | f + 1, k => bif Nat.beq k 0 then .z else bif Nat.beq (Nat.mod k 2) 1 then .l (pathF f (Nat.div k 2)) else .r (pathF f (Nat.pred (Nat.div k 2)))

/-- A number as a way through a tree. -/
noncomputable def path (k : Nat) : Pa := pathF (Nat.succ k) k

noncomputable def Tr.getP {α : Type} (p : Pa) : Tr α → Option α :=
  Pa.rec (fun t => Tr.casesOn t none fun _ v _ => v) (fun _ ih t => Tr.casesOn t none fun l _ _ => ih l) (fun _ ih t => Tr.casesOn t none fun _ _ r => ih r) p

noncomputable def Tr.setP {α : Type} (x : Option α) (p : Pa) : Tr α → Tr α :=
  Pa.rec (fun t => Tr.casesOn t (.n .e x .e) fun l _ r => .n l x r)
    (fun _ ih t => Tr.casesOn t (.n (ih .e) none .e) fun l v r => .n (ih l) v r)
    (fun _ ih t => Tr.casesOn t (.n .e none (ih .e)) fun l v r => .n l v (ih r)) p

noncomputable def Tr.get {α : Type} (t : Tr α) (k : Nat) : Option α := Tr.getP (path k) t

noncomputable def Tr.set {α : Type} (t : Tr α) (k : Nat) (v : Option α) : Tr α := Tr.setP v (path k) t

structure AE where
  key : AV
  val : AV
  born : Nat

inductive AB where
  | c (cells : List AV) (w : Nat)
  | m (es : List AE) (clock : Nat)
  | mi (map : Option Nat) (since : Nat) (seen : List Nat) (stepped : Nat)
  | si (s : List UInt8) (pos : Nat)
  | r (its : List AV)
  | sj (its : List AV) (pos : Nat)

structure AH where
  nx : Nat
  t : Tr AB

noncomputable def AH.get (h : AH) (n : Nat) : Option AB := h.t.get n
noncomputable def AH.alloc (h : AH) (b : AB) : AH := ⟨h.nx + 1, h.t.set h.nx (some b)⟩
noncomputable def AH.upd (h : AH) (n : Nat) (b : AB) : AH := ⟨h.nx, h.t.set n (some b)⟩
noncomputable def AH.del (h : AH) (n : Nat) : AH := ⟨h.nx, h.t.set n none⟩

noncomputable def ofCell : Value → Option AV
  | .bool x => some (.b x)
  | .int k n => some (.i k n)
  | .float k n => some (.f k n)
  | .string s => some (.s s.data.toList)
  | .pointer none => some .pn
  | .slice none 0 0 => some .sn
  | .map none => some .mn
  | .nilFunc => some .fnil
  | .nilIface => some .inil
  | _ => none

noncomputable def ofCells : List Value → Option (List AV)
  | [] => some []
  | v :: r => match ofCell v with
    | some x => match ofCells r with
      | some l => some (x :: l)
      | none => none
    | none => none

noncomputable def ofVal : Value → Option AV
  | .agg cs => match ofCells cs.toList with
    | some l => some (.ag l)
    | none => none
  | v => ofCell v

noncomputable def toV : AV → Option Value
  | .b x => some (.bool x)
  | .i k n => some (.int k n)
  | .f k n => some (.float k n)
  | .s l => some (.string ⟨l.toArray⟩)
  | .pn => some (.pointer none)
  | .sn => some (.slice none 0 0)
  | .mn => some (.map none)
  | .fnil => some .nilFunc
  | .inil => some .nilIface
  | _ => none

noncomputable def toVs : List AV → Option (List Value)
  | [] => some []
  | x :: r => match toV x with
    | some v => match toVs r with
      | some l => some (v :: l)
      | none => none
    | none => none

noncomputable def toVal : AV → Option Value
  | .ag l => match toVs l with
    | some vs => some (.agg vs.toArray)
    | none => none
  | x => toV x

noncomputable def runPure {α : Type} (P : Program) : Sem α → Option α
  | .pure a => some a
  | .program k => runPure P (k P)
  | .mark _ k => runPure P k
  | _ => none

noncomputable def pureV (P : Program) (s : Sem Value) : Option AV :=
  match runPure P s with
  | some v => ofVal v
  | none => none

noncomputable def AV.cells : AV → List AV
  | .ag l => l
  | v => [v]

noncomputable def AV.one : AV → Bool
  | .ag _ | .tu _ => false
  | _ => true

noncomputable def takeN : Nat → List AV → Option (List AV)
  | 0, _ => some []
  | n + 1, x :: r => match takeN n r with
    | some l => some (x :: l)
    | none => none
  | _ + 1, [] => none

/-- The new cells over the old ones, from a place on. -/
noncomputable def putN : Nat → List AV → List AV → Option (List AV)
  | _, [], cs => some cs
  | 0, x :: xs, _ :: cs => match putN 0 xs cs with
    | some l => some (x :: l)
    | none => none
  | n + 1, xs, c :: cs => match putN n xs cs with
    | some l => some (c :: l)
    | none => none
  | _, _ :: _, [] => none

noncomputable def repl (n : Nat) (z : List AV) : List AV := Nat.rec [] (fun _ ih => z ++ ih) n

section
variable (P : Program)

noncomputable def szOf (t : TypeId) : Option Nat := match P.info? t with
  | some i => some i.size
  | none => none

noncomputable def bytesOf (t : TypeId) : Option Nat := match P.info? t with
  | some i => some i.bytes
  | none => none

noncomputable def zeroOf (t : TypeId) : Option AV := match P.info? t with
  | some i => match i.zero with
    | some v => ofVal v
    | none => none
  | none => none

noncomputable def agg? (t : TypeId) : Option Bool := match P.underlying t with
  | some (.struct _) => some true
  | some (.array _ _) => some true
  | some _ => some false
  | none => none

noncomputable def loadC (h : AH) (n o k : Nat) : Option (List AV) := match h.get n with
  | some (.c cs _) => takeN k (cs.drop o)
  | _ => none

noncomputable def loadT (t : TypeId) (h : AH) (n o : Nat) : Option AV := match agg? P t with
  | some true => match szOf P t with
    | some k => match loadC h n o k with
      | some l => some (.ag l)
      | none => none
    | none => none
  | some false => match loadC h n o 1 with
    | some (x :: _) => some x
    | _ => none
  | none => none

noncomputable def storeC (h : AH) (n o : Nat) (xs : List AV) : Option AH := match h.get n with
  | some (.c cs op) => bif xs.all AV.one then (match putN o xs cs with
    | some l => some (h.upd n (.c l op))
    | none => none) else none
  | _ => none

noncomputable def storeT (t : TypeId) (h : AH) (n o : Nat) (x : AV) : Option AH := match szOf P t with
  | some k => bif x.cells.length == k then storeC h n o x.cells else none
  | none => none

noncomputable def ev (gs : Nat) (t : Tr AV) : Operand → Option AV
  | .tmp x => t.get x
  | .const v => ofVal v
  | .global g => bif Nat.blt g gs then some (.p g 0) else none
  | .func f => some (.fn (.func f) [] [])

noncomputable def evs (ρ : Operand → Option AV) : List Operand → Option (List AV)
  | [] => some []
  | x :: r => match ρ x with
    | some v => match evs ρ r with
      | some l => some (v :: l)
      | none => none
    | none => none

noncomputable def evp (ρ : Operand → Option AV) : List (Nat × Operand) → Option (List (Nat × AV))
  | [] => some []
  | (i, x) :: r => match ρ x with
    | some v => match evp ρ r with
      | some l => some ((i, v) :: l)
      | none => none
    | none => none

inductive R where
  | v (x : AV) (h : AH)
  | sk (h : AH)
  | call (f : Nat) (args : List AV)
  | df (f : Nat) (args : List AV)

/-- A field's place and size. -/
noncomputable def fieldOf (t : TypeId) (k : Nat) : Option (Nat × Nat × TypeId) := match P.underlying t with
  | some (.struct fs) => match fs[k]? with
    | some f => match szOf P f.type with
      | some n => some (f.offset, n, f.type)
      | none => none
    | none => none
  | _ => none

noncomputable def part (t : TypeId) (cs : List AV) (off : Nat) : Option AV := match agg? P t with
  | some true => match szOf P t with
    | some n => match takeN n (cs.drop off) with
      | some l => some (.ag l)
      | none => none
    | none => none
  | some false => match cs.drop off with
    | x :: _ => some x
    | [] => none
  | none => none

noncomputable def fillS (t : TypeId) (cs : List AV) : List (Nat × AV) → Option (List AV)
  | [] => some cs
  | (i, v) :: r => match fieldOf P t i with
    | some (off, n, _) => bif Nat.beq v.cells.length n && Nat.blt 0 n then (match putN off v.cells cs with
      | some cs' => fillS t cs' r
      | none => none) else none
    | none => none

noncomputable def fillR (n : Nat) (cs : List AV) : List (Nat × AV) → Option (List AV)
  | [] => some cs
  | (i, v) :: r => bif Nat.beq v.cells.length n then (match putN (i * n) v.cells cs with
      | some cs' => fillR n cs' r
      | none => none) else none

noncomputable def natOf : AV → Option Nat
  | .i _ (.ofNat n) => some n
  | _ => none

noncomputable def natOpt (ρ : Operand → Option AV) : Option Operand → Option (Option Nat)
  | none => some none
  | some x => match ρ x with
    | some v => match natOf v with
      | some n => some (some n)
      | none => none
    | none => none

noncomputable def strOp (op : BinOp) (x y : List UInt8) : Option AV := match op with
  | .add => bif Nat.ble (x.length + y.length) 9223372036854775807 then some (.s (x ++ y)) else none
  | .eql => some (.b (x == y))
  | .neq => some (.b !(x == y))
  | .lss => some (.b (Op.bytesLess x y))
  | .leq => some (.b (Op.bytesLess x y || x == y))
  | .gtr => some (.b !(Op.bytesLess x y || x == y))
  | .geq => some (.b !(Op.bytesLess x y))
  | _ => none

/-- Against nil: whether x is it. -/
noncomputable def isNil : AV → Option Bool
  | .pn | .sn | .mn | .fnil => some true
  | .p _ _ | .sl _ _ _ _ | .so _ _ _ _ | .se _ _ | .m _ | .fn _ _ _ | .rs _ _ _ _ => some false
  | _ => none

noncomputable def kindNil : AV → Nat
  | .pn | .p _ _ => 1
  | .sn | .sl _ _ _ _ | .so _ _ _ _ | .se _ _ | .rs _ _ _ _ => 2
  | .mn | .m _ => 3
  | .fnil | .fn _ _ _ => 4
  | _ => 0

noncomputable def descNil : Option TypeDesc → Nat
  | some (.pointer _) => 1
  | some (.slice _) => 2
  | some (.map _ _) => 3
  | some (.func _ _ _) => 4
  | _ => 0

noncomputable def eqRes (op : BinOp) (d : Bool) : Option AV := match op with
  | .eql => some (.b d)
  | .neq => some (.b !d)
  | _ => none

noncomputable def bothNil : Option Bool → Option Bool → Option Bool
  | some true, some d => some d
  | some false, some true => some false
  | _, _ => none

noncomputable def eqResO (op : BinOp) : Option Bool → Option AV
  | some d => eqRes op d
  | none => none

noncomputable def cmpNil (op : BinOp) (t : TypeId) (x y : AV) : Option AV :=
  bif Nat.beq (kindNil x) (kindNil y) && Nat.beq (descNil (P.underlying t)) (kindNil x) then eqResO op (bothNil (isNil x) (isNil y)) else none

noncomputable def binI (op : BinOp) (t : TypeId) (k : IntKind) (a : Int) (k' : IntKind) (c : Int) : Option AV := pureV P (Go.binOp op t (.int k a) (.int k' c))

noncomputable def ptrTo (t : TypeId) : Bool := match P.underlying t with
  | some (.pointer e) => match szOf P e with
    | some (_ + 1) => true
    | _ => false
  | _ => false

noncomputable def binP (op : BinOp) (t : TypeId) (n o n' o' : Nat) : Option AV :=
  bif ptrTo P t && Nat.beq n n' then eqRes op (Nat.beq o o') else none

noncomputable def binV (op : BinOp) (t : TypeId) : Option Value → Option Value → Option AV
  | some a, some c => pureV P (do eqGuard op t (.const a) (.const c) a c; Go.binOp op t a c)
  | _, _ => none

noncomputable def isIf : AV → Bool
  | .inil => true
  | _ => false

noncomputable def bin (op : BinOp) (t : TypeId) (x y : AV) : Option AV := match x, y with
  | .s a, .s c => strOp op a c
  | .i k a, .i k' c => binI P op t k a k' c
  | .p n o, .p n' o' => binP P op t n o n' o'
  | _, _ => bif isIf x || isIf y then none else binV P op t (toVal x) (toVal y)

noncomputable def binO (op : BinOp) (t : TypeId) (x y : AV) : Option AV → Option AV
  | some r => some r
  | none => bin P op t x y

noncomputable def binA (op : BinOp) (t : TypeId) (x y : AV) : Option AV :=
  bif Nat.beq (kindNil x) 0 then bin P op t x y else binO P op t x y (cmpNil P op t x y)

noncomputable def bytesL : List AV → Option (List UInt8)
  | [] => some []
  | .i .u8 n :: r => match bytesL r with
    | some l => some (UInt8.ofNat n.toNat :: l)
    | none => none
  | _ => none

noncomputable def conv (src dst : TypeId) (h : AH) (x : AV) : Option (AV × AH) := match x with
  | .i k n => match pureV P (Go.convert src dst (.int k n)) with
    | some v => some (v, h)
    | none => none
  | .f k n => match pureV P (Go.convert src dst (.float k n)) with
    | some v => some (v, h)
    | none => none
  | .s l => match P.underlying src, P.underlying dst with
    | some .string, some .string => some (.s l, h)
    | _, _ => none
  | .sn => match P.underlying src, P.underlying dst with
    | some (.slice e), some .string => match P.underlying e with
      | some (.int .u8) => some (.s [], h)
      | _ => none
    | _, _ => none
  | .sl n o len _ | .so n o _ len => match P.underlying src, P.underlying dst with
    | some (.slice e), some .string => match P.underlying e with
      | some (.int .u8) => match loadC h n o len with
        | some l => match bytesL l with
          | some s => some (.s s, h)
          | none => none
        | none => none
      | _ => none
    | _, _ => none
  | .se _ _ => match P.underlying src, P.underlying dst with
    | some (.slice e), some .string => match P.underlying e with
      | some (.int .u8) => some (.s [], h)
      | _ => none
    | _, _ => none
  | _ => none

noncomputable def idxAddr (t : TypeId) (x y : AV) : Option AV := match natOf y with
  | some i => match P.underlying t, x with
    | some (.array len e), .p n o => bif Nat.blt i len then (match szOf P e with
      | some k => some (.p n (o + i * k))
      | none => none) else none
    | some (.slice e), .sl n o len _ => bif Nat.blt i len then (match szOf P e with
      | some k => some (.p n (o + i * k))
      | none => none) else none
    | some (.slice e), .so n o _ len => bif Nat.blt i len then (match szOf P e with
      | some k => some (.p n (o + i * k))
      | none => none) else none
    | _, _ => none
  | none => none

/-- l ≤ h ≤ m. -/
noncomputable def sliceA (t : TypeId) (hp : AH) (x : AV) (lo hi mx : Option Nat) : Option (AV × AH) := match P.underlying t, x with
  | some .string, .s l => match mx with
    | some _ => none
    | none => let a := lo.getD 0; let z := hi.getD l.length
      bif Nat.ble a z && Nat.ble z l.length then some (.s ((l.take z).drop a), hp) else none
  | some (.slice e), .sn => bif (szOf P e).isSome && Nat.beq (lo.getD 0) 0 && Nat.beq (hi.getD 0) 0 && Nat.beq (mx.getD 0) 0 && (mx.isNone || hi.isSome) then some (.sn, hp) else none
  | some (.slice e), .sl n o len cap => match szOf P e with
    | some k => let a := lo.getD 0; let z := hi.getD len; let c := mx.getD cap
      bif Nat.ble a z && Nat.ble z c && Nat.ble c cap && (mx.isNone || hi.isSome) then
        some (.sl n (bif Nat.beq a c then o else o + a * k) (z - a) (c - a), hp) else none
    | none => none
  | some (.slice e), .so n o ee len => match szOf P e with
    | some k => let a := lo.getD 0; let z := hi.getD len
      bif Nat.ble a z && Nat.ble z len then (match mx with
        | none => bif Nat.beq a 0 then some (.so n o ee z, hp) else bif Nat.beq a z then some (.se false hp.nx, ⟨hp.nx + 1, hp.t⟩) else some (.so n (o + a * k) (ee + a) (z - a), hp)
        | some c => bif hi.isSome && Nat.ble z c && Nat.ble c len then some (.sl n (bif Nat.beq a c then o else o + a * k) (z - a) (c - a), hp) else none) else none
    | none => none
  | some (.slice e), .se zz n => bif (szOf P e).isSome && Nat.beq (lo.getD 0) 0 && Nat.beq (hi.getD 0) 0 && Nat.beq (mx.getD 0) 0 && (mx.isNone || hi.isSome) then some (.se (zz || mx.isSome) n, hp) else none
  | some (.array len e), .p n o => match szOf P e with
    | some k => let a := lo.getD 0; let z := hi.getD len; let c := mx.getD len
      bif Nat.ble a z && Nat.ble z c && Nat.ble c len && (mx.isNone || hi.isSome) then
        some (.sl n (bif Nat.beq a c then o else o + a * k) (z - a) (c - a), hp) else none
    | none => none
  | _, _ => none

noncomputable def same : AV → AV → Option Bool
  | .i k a, .i k' c => bif k == k' then some (a == c) else none
  | .s a, .s c => some (a == c)
  | _, _ => none

noncomputable def findK (k : AV) : List AE → Nat → Option (Option (Nat × AV))
  | [], _ => some none
  | e :: es, i => match same k e.key with
    | some true => some (some (i, e.val))
    | some false => findK k es (i + 1)
    | none => none

noncomputable def mapAt (t : TypeId) : Option (TypeId × TypeId) := match P.underlying t with
  | some (.map k e) => match P.underlying k with
    | some (.int _) => some (k, e)
    | some .string => some (k, e)
    | _ => none
  | _ => none

noncomputable def keyOk (k : AV) (t : TypeId) : Bool := match P.underlying t, k with
  | some (.int q), .i q' _ => q == q'
  | some .string, .s _ => true
  | _, _ => false

noncomputable def mapEs (h : AH) : AV → Option (List AE)
  | .mn => some []
  | .m n => match h.get n with
    | some (.m es _) => some es
    | _ => none
  | _ => none

noncomputable def findO (k : AV) : Option (List AE) → Option (Option (Nat × AV))
  | some es => findK k es 0
  | none => none

noncomputable def okV (ok : Bool) (v : AV) (b : Bool) : AV := bif ok then .tu [v, .b b] else v

noncomputable def okZ (ok : Bool) : Option AV → Option AV
  | some z => some (okV ok z false)
  | none => none

noncomputable def look2 (ok : Bool) (z : Option AV) : Option (Option (Nat × AV)) → Option AV
  | some (some x) => some (okV ok x.2 true)
  | some none => okZ ok z
  | none => none

noncomputable def look1 (h : AH) (x k : AV) (ok : Bool) : Option (TypeId × TypeId) → Option AV
  | some kt => bif keyOk P k kt.1 then look2 ok (zeroOf P kt.2) (findO k (mapEs h x)) else none
  | none => none

noncomputable def look (t : TypeId) (h : AH) (x k : AV) (ok : Bool) : Option AV := look1 P h x k ok (mapAt P t)

noncomputable def setAt (v : AV) : Nat → List AE → List AE
  | _, [] => []
  | 0, e :: es => { e with val := v } :: es
  | n + 1, e :: es => e :: setAt v n es

noncomputable def eraseAt : Nat → List AE → List AE
  | _, [] => []
  | 0, _ :: es => es
  | n + 1, e :: es => e :: eraseAt n es

noncomputable def mapUp (t : TypeId) (h : AH) (x k v : AV) : Option AH := match mapAt P t, x with
  | some (kt, _), .m n => bif keyOk P k kt then (match h.get n with
    | some (.m es cl) => match findK k es 0 with
      | some (some (i, _)) => some (h.upd n (.m (setAt v i es) cl))
      | some none => some (h.upd n (.m (es ++ [⟨k, v, cl⟩]) (cl + 1)))
      | none => none
    | _ => none) else none
  | _, _ => none

noncomputable def bornAt (es : List AE) (i : Nat) : Nat := match es.drop i with
  | e :: _ => e.born
  | [] => 0

noncomputable def mapEn (t : TypeId) (h : AH) (x k : AV) : Option (AV × AH) := match mapAt P t, x with
  | some (kt, e), .m n => bif keyOk P k kt then (match h.get n with
    | some (.m es cl) => match findK k es 0 with
      | some (some (i, v)) => some (.tu [v, .i .i64 (bornAt es i)], h)
      | some none => match zeroOf P e with
        | some z => some (.tu [z, .i .i64 cl], h.upd n (.m (es ++ [⟨k, z, cl⟩]) (cl + 1)))
        | none => none
      | none => none
    | _ => none) else none
  | _, _ => none

noncomputable def setBorn (v : AV) (b : Nat) : List AE → Option (List AE)
  | [] => none
  | e :: es => bif e.born == b then some ({ e with val := v } :: es) else match setBorn v b es with
    | some l => some (e :: l)
    | none => none

noncomputable def entSt (h : AH) (x st v : AV) : Option AH := match x, st with
  | .m n, .i _ (.ofNat b) => match h.get n with
    | some (.m es cl) => match setBorn v b es with
      | some l => some (h.upd n (.m l cl))
      | none => none
    | _ => none
  | _, _ => none

noncomputable def mapDel (t : TypeId) (h : AH) (x k : AV) : Option AH := match mapAt P t, x with
  | some (kt, _), .m n => bif keyOk P k kt then (match h.get n with
    | some (.m es cl) => match findK k es 0 with
      | some (some (i, _)) => some (h.upd n (.m (eraseAt i es) cl))
      | some none => some h
      | none => none
    | _ => none) else none
  | _, _ => none

noncomputable def rangeA (t : TypeId) (h : AH) (x : AV) : Option (AV × AH) := match P.underlying t, x with
  | some .string, .s l => some (.p h.nx 0, h.alloc (.si l 0))
  | some (.map _ _), .mn => some (.p h.nx 0, h.alloc (.mi none 0 [] 0))
  | some (.map _ _), .m n => match h.get n with
    | some (.m _ cl) => some (.p h.nx 0, h.alloc (.mi (some n) cl [] cl))
    | _ => none
  | _, _ => none

noncomputable def leftL (seen : List Nat) : List AE → List AE
  | [] => []
  | e :: es => bif seen.contains e.born then leftL seen es else e :: leftL seen es

noncomputable def nextA (h : AH) (x : AV) (str : Bool) : Option (AV × AH) := match x with
  | .p n 0 => match h.get n, str with
    | some (.si l pos), true => match l.drop pos with
      | [] => some (.tu [.b false], h)
      | c :: _ => bif Nat.blt c.toNat 128 then some (.tu [.b true, .i .i64 pos, .i .i32 c.toNat], h.upd n (.si l (pos + 1))) else none
    | some (.mi none _ _ _), false => some (.tu [.b false], h)
    | some (.mi (some m) since seen st), false => match h.get m with
      | some (.m es cl) => match leftL seen es with
        | [] => bif seen.isEmpty || es.isEmpty || es.any (fun e => Nat.blt e.born st) then some (.tu [.b false], h) else none
        | [e] => bif Nat.blt e.born since && seen.isEmpty then some (.tu [.b true, e.key, e.val], h.upd n (.mi (some m) since (seen ++ [e.born]) cl)) else none
        | _ => none
      | _ => none
    | _, _ => none
  | _ => none

noncomputable def findBorn (b : Nat) : List AE → Option AE
  | [] => none
  | e :: es => bif e.born == b then some e else findBorn b es

noncomputable def entA (h : AH) (x : AV) : Option AV := match x with
  | .p n 0 => match h.get n with
    | some (.mi (some m) _ [b] st) => match h.get m with
      | some (.m es cl) => bif cl == st then (match findBorn b es with
        | some e => some (.tu [e.key, e.val])
        | none => none) else none
      | _ => none
    | _ => none
  | _ => none

noncomputable def withN (n : Nat) : Option (List AV) → Option (Nat × List AV)
  | some l => some (n, l)
  | none => none

/-- What an append appends, as cells. -/
noncomputable def appended (k : Nat) (h : AH) : AV → Option (Nat × List AV)
  | .s l => bif Nat.beq k 1 then some (l.length, l.map fun b => .i .u8 b.toNat) else none
  | .sn => some (0, [])
  | .se _ _ => some (0, [])
  | .sl n o len _ => withN len (loadC h n o (len * k))
  | .so n o _ len => withN len (loadC h n o (len * k))
  | _ => none

noncomputable def room : Nat := 1000000000

noncomputable def app0 (h : AH) (s : AV) : Option (AV × AH) := match s with
  | .sn => some (s, h)
  | .se _ _ => some (s, h)
  | .sl _ _ len cap => bif Nat.ble len cap then some (s, h) else none
  | .so _ _ _ _ => some (s, h)
  | _ => none

noncomputable def grown (k : Nat) (h : AH) (len : Nat) (cs : List AV) : Option (AV × AH) :=
  bif Nat.ble len room then some (.so h.nx 0 0 len, h.alloc (.c cs k)) else none

noncomputable def stored (v : AV) : Option AH → Option (AV × AH)
  | some h => some (v, h)
  | none => none

noncomputable def grown1 (k : Nat) (h : AH) (len : Nat) (new : List AV) : Option (List AV) → Option (AV × AH)
  | some old => grown k h len (old ++ new)
  | none => none

noncomputable def grown2 (k : Nat) (h : AH) (m len n : Nat) (new : List AV) : Option AB → Option (AV × AH)
  | some (.c cs w) => bif Nat.beq w k && Nat.beq cs.length (len * k) then grown k (h.del m) (len + n) (cs ++ new) else none
  | _ => none

noncomputable def app3 (k : Nat) (h : AH) (n : Nat) (new : List AV) (s : AV) : Option (AV × AH) := match s with
  | .sn => grown k h n new
  | .se z _ => bif z then grown k h n new else none
  | .sl m o len cap => bif Nat.ble (len + n) cap then stored (.sl m o (len + n) cap) (storeC h m (o + len * k) new) else grown1 k h (len + n) new (loadC h m o (len * k))
  | .so m o ee len => bif Nat.beq o 0 && Nat.beq ee 0 then grown2 k h m len n new (h.get m) else none
  | _ => none

noncomputable def app2 (k : Nat) (h : AH) (s : AV) : Option (Nat × List AV) → Option (AV × AH)
  | some x => bif x.2.all AV.one then (bif Nat.beq x.1 0 then app0 h s else app3 k h x.1 x.2 s) else none
  | none => none

noncomputable def okSz (k bt : Nat) (z : AV) : Bool := Nat.blt 0 k && Nat.blt 0 bt && Nat.ble bt 1000 && Nat.beq z.cells.length k

noncomputable def app1 (h : AH) (s x : AV) : Option Nat → Option Nat → Option AV → Option (AV × AH)
  | some k, some bt, some z => bif okSz k bt z then app2 k h s (appended k h x) else none
  | _, _, _ => none

noncomputable def appE (h : AH) (s x : AV) : Option TypeId → Option (AV × AH)
  | some e => app1 h s x (szOf P e) (bytesOf P e) (zeroOf P e)
  | none => none

noncomputable def sliceEl (t : TypeId) : Option TypeId := match P.underlying t with
  | some (.slice e) => some e
  | _ => none

noncomputable def appendA (st : TypeId) (h : AH) (s x : AV) : Option (AV × AH) := appE P h s x (sliceEl P st)

noncomputable def lenA (h : AH) : AV → Option Nat
  | .s l => some l.length
  | .sn | .mn | .se _ _ => some 0
  | .sl _ _ len _ | .so _ _ _ len => some len
  | .m n => match h.get n with
    | some (.m es _) => some es.length
    | _ => none
  | _ => none

noncomputable def mm (mx : Bool) : List AV → Option AV
  | [.i k a, .i k' c] => bif k == k' then some (.i k (bif mx then (if c > a then c else a) else (if c < a then c else a))) else none
  | _ => none

noncomputable def nth : List AV → Nat → Option AV
  | x :: _, 0 => some x
  | _ :: r, n + 1 => nth r n
  | [], _ => none

noncomputable def plainTy (t : TypeId) : Bool := match P.underlying t with
  | some .string => true
  | some (.slice _) => true
  | _ => false

noncomputable def o2 : Option (AV × AH) → Option R
  | some x => some (.v x.1 x.2)
  | none => none

noncomputable def builtinA (bt : Builtin) (ats : Array TypeId) (h : AH) (args : List AV) : Option R := match bt with
  | .append => match ats[0]?, ats[1]?, args with
    | some st, some xt, [s, x] => bif plainTy P xt then o2 (appendA P st h s x) else none
    | _, _, _ => none
  | .len => match ats[0]?, args with
    | some t, [x] => match P.underlying t, x with
      | some .string, .s l => some (.v (.i .i64 l.length) h)
      | some (.slice _), _ => match x with
        | .sn | .se _ _ => some (.v (.i .i64 0) h)
        | .sl _ _ len _ | .so _ _ _ len => some (.v (.i .i64 len) h)
        | _ => none
      | some (.map _ _), .mn => some (.v (.i .i64 0) h)
      | some (.map _ _), .m n => match h.get n with
        | some (.m es _) => some (.v (.i .i64 es.length) h)
        | _ => none
      | _, _ => none
    | _, _ => none
  | .delete => match ats[0]?, args with
    | some t, [x, k] => match mapDel P t h x k with
      | some h' => some (.v (.tu []) h')
      | none => none
    | _, _ => none
  | .max => match mm true args with
    | some v => some (.v v h)
    | none => none
  | .min => match mm false args with
    | some v => some (.v v h)
    | none => none
  | _ => none

noncomputable def makeSl (t : TypeId) (h : AH) (l c : AV) : Option (AV × AH) := match P.underlying t with
  | some (.slice e) => match natOf l, natOf c, szOf P e, bytesOf P e, zeroOf P e with
    | some l, some c, some k, some bt, some z => bif Nat.ble l c && Nat.ble c 1000000 && Nat.ble bt 1000 && Nat.blt 0 k && z.cells.length == k then
        some (.sl h.nx 0 l c, h.alloc (.c (repl c z.cells) 0)) else none
    | _, _, _, _, _ => none
  | _ => none

noncomputable def o1 (h : AH) : Option AV → Option R
  | some v => some (.v v h)
  | none => none

noncomputable def o3 : Option AH → Option R
  | some h => some (.sk h)
  | none => none

noncomputable def asP : Option AV → Option (Nat × Nat)
  | some (.p n o) => some (n, o)
  | _ => none

noncomputable def asB : Option AV → Option Bool
  | some (.b x) => some x
  | _ => none

noncomputable def asTu : Option AV → Option (List AV)
  | some (.tu l) => some l
  | _ => none

noncomputable def asAg : Option AV → Option (List AV)
  | some (.ag l) => some l
  | _ => none

noncomputable def asFn : Option AV → Option (Nat × List AV × List AV)
  | some (.fn (.func g) first cap) => some (g, first, cap)
  | _ => none

variable (ρ : Operand → Option AV)

noncomputable def oPick (h : AH) (c a d : Operand) : Option R := match asB (ρ c) with
  | some x => o1 h (bif x then ρ a else ρ d)
  | none => none

noncomputable def oAlloc (h : AH) : Option AV → Option R
  | some z => some (.v (.p h.nx 0) (h.alloc (.c z.cells 0)))
  | none => none

noncomputable def oBox (h : AH) : Option AV → Option R
  | some v => bif v.cells.all AV.one then some (.v (.p h.nx 0) (h.alloc (.c v.cells 0))) else none
  | none => none

noncomputable def allInfo : List Field → Bool
  | [] => true
  | f :: r => match szOf P f.type with
    | some _ => allInfo r
    | none => false

noncomputable def isStruct (t : TypeId) : Bool := match P.underlying t with
  | some (.struct fs) => allInfo P fs.toList
  | _ => false

noncomputable def ags : Option (List AV) → Option AV
  | some l => some (.ag l)
  | none => none

noncomputable def oBuild1 (ty : TypeId) : Option AV → Option (List (Nat × AV)) → Option AV
  | some z, some vs => ags (fillS P ty z.cells vs)
  | _, _ => none

noncomputable def oBuild (h : AH) (ty : TypeId) (ps : Array (Nat × Operand)) : Option R :=
  bif isStruct P ty then o1 h (oBuild1 P ty (zeroOf P ty) (evp ρ ps.toList)) else none

/-- Parts that lie one behind the other, from number i on. -/
noncomputable def dense (k : Nat) : Nat → List (Nat × AV) → Option (List AV)
  | _, [] => some []
  | i, x :: r => bif Nat.beq x.1 i && Nat.beq x.2.cells.length k then (match dense k (Nat.succ i) r with
    | some l => some (x.2.cells ++ l)
    | none => none) else none

noncomputable def fillD (k len : Nat) (z : List AV) (vs : List (Nat × AV)) : Option (List AV) :=
  bif Nat.beq vs.length len then (match dense k 0 vs with
    | some l => some l
    | none => fillR k (repl len z) vs) else fillR k (repl len z) vs

noncomputable def newRow (h : AH) (len : Nat) : Option (List AV) → Option R
  | some cs => bif cs.all AV.one then some (.v (.sl h.nx 0 len len) (h.alloc (.c cs 0))) else none
  | none => none

noncomputable def rowC1 (len : Nat) : Option Nat → Option AV → Option (List (Nat × AV)) → Option (List AV)
  | some k, some z, some vs => bif Nat.blt 0 k && Nat.ble (Nat.mul len k) 10000 && Nat.beq z.cells.length k then fillD k len z.cells vs else none
  | _, _, _ => none

noncomputable def rowC (ty : TypeId) (len : Nat) (ps : Array (Nat × Operand)) : Option (List AV) := match sliceEl P ty with
  | some e => rowC1 len (szOf P e) (zeroOf P e) (evp ρ ps.toList)
  | none => none

noncomputable def oRow (h : AH) (ty : TypeId) (len : Nat) (ps : Array (Nat × Operand)) : Option R := newRow h len (rowC P ρ ty len ps)

noncomputable def oLoad (h : AH) (ty : TypeId) : Option (Nat × Nat) → Option R
  | some x => o1 h (loadT P ty h x.1 x.2)
  | none => none

noncomputable def oStore (h : AH) (ty : TypeId) : Option (Nat × Nat) → Option AV → Option R
  | some x, some v => o3 (storeT P ty h x.1 x.2 v)
  | _, _ => none

noncomputable def oNil (h : AH) : Option (Nat × Nat) → Option R
  | some x => some (.v (.p x.1 x.2) h)
  | none => none

noncomputable def oBin (h : AH) (bo : BinOp) (ty : TypeId) : Option AV → Option AV → Option R
  | some a, some c => o1 h (binA P bo ty a c)
  | _, _ => none

noncomputable def oUn1 (u : UnOp) : Option Value → Option AV
  | some v => pureV P (Op.unary u v)
  | none => none

noncomputable def oUn (h : AH) (u : UnOp) : Option AV → Option R
  | some (.b x) => match u with
    | .not => some (.v (.b !x) h)
    | _ => none
  | some a => o1 h (oUn1 P u (toVal a))
  | none => none

noncomputable def oConv (h : AH) (s d : TypeId) : Option AV → Option R
  | some a => o2 (conv P s d h a)
  | none => none

noncomputable def oFn (h : AH) (f : Fn) : Option (List AV) → Option (List AV) → Option R
  | some a, some c => some (.v (.fn f a c) h)
  | _, _ => none

noncomputable def oMkMap (h : AH) : Option Operand → Option R
  | none => some (.v (.m h.nx) (h.alloc (.m [] 0)))
  | some _ => none

noncomputable def oMkSl (h : AH) (ty : TypeId) : Option AV → Option AV → Option R
  | some a, some z => o2 (makeSl P ty h a z)
  | _, _ => none

noncomputable def oSlice (h : AH) (ty : TypeId) : Option AV → Option (Option Nat) → Option (Option Nat) → Option (Option Nat) → Option R
  | some v, some a, some z, some c => o2 (sliceA P ty h v a z c)
  | _, _, _, _ => none

noncomputable def oFa (h : AH) : Option (Nat × Nat) → Option (Nat × Nat × TypeId) → Option R
  | some x, some y => bif Nat.beq y.2.1 0 then none else some (.v (.p x.1 (Nat.add x.2 y.1)) h)
  | _, _ => none

noncomputable def oFld (h : AH) : Option (List AV) → Option (Nat × Nat × TypeId) → Option R
  | some cs, some y => o1 h (part P y.2.2 cs y.1)
  | _, _ => none

noncomputable def oIa (h : AH) (ty : TypeId) : Option AV → Option AV → Option R
  | some a, some c => o1 h (idxAddr P ty a c)
  | _, _ => none

noncomputable def isStr (t : TypeId) : Bool := match P.underlying t with
  | some .string => true
  | _ => false

noncomputable def byteAt (l : List UInt8) (i : Nat) : Option AV := match l.drop i with
  | c :: _ => some (.i .u8 c.toNat)
  | [] => none

noncomputable def idxS : Option AV → Option AV → Option AV
  | some (.s l), some c => match natOf c with
    | some i => byteAt l i
    | none => none
  | _, _ => none

noncomputable def oIdx (h : AH) (ty : TypeId) (x y : Option AV) : Option R := bif isStr P ty then o1 h (idxS x y) else none

noncomputable def oLook (h : AH) (ty : TypeId) (ok : Bool) : Option AV → Option AV → Option R
  | some a, some c => o1 h (look P ty h a c ok)
  | _, _ => none

noncomputable def oMapUp (h : AH) (ty : TypeId) : Option AV → Option AV → Option AV → Option R
  | some a, some c, some v => o3 (mapUp P ty h a c v)
  | _, _, _ => none

noncomputable def oMapEn (h : AH) (ty : TypeId) : Option AV → Option AV → Option R
  | some a, some c => o2 (mapEn P ty h a c)
  | _, _ => none

noncomputable def oEntSt (h : AH) : Option AV → Option AV → Option AV → Option R
  | some a, some c, some v => o3 (entSt h a c v)
  | _, _, _ => none

noncomputable def oRange (h : AH) (ty : TypeId) : Option AV → Option R
  | some a => o2 (rangeA P ty h a)
  | none => none

noncomputable def oNext (h : AH) (str : Bool) : Option AV → Option R
  | some a => o2 (nextA h a str)
  | none => none

noncomputable def oEnt (h : AH) : Option AV → Option R
  | some a => o1 h (entA h a)
  | none => none

noncomputable def oEx (h : AH) (k : Nat) : Option (List AV) → Option R
  | some l => o1 h (nth l k)
  | none => none

noncomputable def oCall1 : Option (Nat × List AV × List AV) → Option (List AV) → Option R
  | some x, some args => some (.call x.1 (x.2.1 ++ (args ++ x.2.2)))
  | _, _ => none

noncomputable def oDefer1 : Option (Nat × List AV × List AV) → Option (List AV) → Option R
  | some x, some args => some (.df x.1 (x.2.1 ++ (args ++ x.2.2)))
  | _, _ => none

noncomputable def oBu (h : AH) (b : Builtin) (ats : Array TypeId) : Option (List AV) → Option R
  | some args => builtinA P b ats h args
  | none => none

noncomputable def oCall (h : AH) (c : Call) : Option R := match c.callee with
  | .builtin b => oBu P h b c.argTypes (evs ρ c.args.toList)
  | .value f => oCall1 (asFn (ρ f)) (evs ρ c.args.toList)
  | .invoke _ _ => none

noncomputable def oDefer (c : Call) : Option R := match c.callee with
  | .value f => oDefer1 (asFn (ρ f)) (evs ρ c.args.toList)
  | _ => none

noncomputable def opD (h : AH) : Op → Option R
  | .move x => o1 h (ρ x)
  | .assign x => o1 h (ρ x)
  | .pick c a d => oPick ρ h c a d
  | .alloc e => oAlloc h (zeroOf P e)
  | .box _ x => oBox h (ρ x)
  | .build ty ps => oBuild P ρ h ty ps
  | .buildSlice ty len ps => oRow P ρ h ty len ps
  | .load ty a => oLoad P h ty (asP (ρ a))
  | .store ty a x => oStore P h ty (asP (ρ a)) (ρ x)
  | .nilCheck x => oNil h (asP (ρ x))
  | .binOp bo ty x y _ => oBin P h bo ty (ρ x) (ρ y)
  | .unOp u _ x => oUn P h u (ρ x)
  | .convert s d x => oConv P h s d (ρ x)
  | .makeFunc f first cap => oFn h f (evs ρ first.toList) (evs ρ cap.toList)
  | .makeMap _ r => oMkMap h r
  | .makeSlice ty l c => oMkSl P h ty (ρ l) (ρ c)
  | .slice ty x lo hi mx => oSlice P h ty (ρ x) (natOpt ρ lo) (natOpt ρ hi) (natOpt ρ mx)
  | .fieldAddr ty x k => oFa h (asP (ρ x)) (fieldOf P ty k)
  | .field ty x k => oFld P h (asAg (ρ x)) (fieldOf P ty k)
  | .indexAddr ty x y => oIa P h ty (ρ x) (ρ y)
  | .index ty x y => oIdx P h ty (ρ x) (ρ y)
  | .lookup ty x k ok => oLook P h ty ok (ρ x) (ρ k)
  | .mapUpdate ty m k x => oMapUp P h ty (ρ m) (ρ k) (ρ x)
  | .mapEntry ty m k => oMapEn P h ty (ρ m) (ρ k)
  | .entryStore _ m st x => oEntSt h (ρ m) (ρ st) (ρ x)
  | .range ty x => oRange P h ty (ρ x)
  | .next it str => oNext h str (ρ it)
  | .entry it => oEnt h (ρ it)
  | .extract x k => oEx h k (asTu (ρ x))
  | .call c => oCall P ρ h c
  | .defer c => oDefer ρ c
  | _ => none
end

/-! ### Texts and rows of which little is known -/

/-- What is asked of values that are not known. -/
structure Or where
  ob : BinOp → TypeId → AV → AV → Option AV
  ou : UnOp → AV → Option AV
  oc : TypeId → TypeId → AV → Option AV
  rl : List AV → Option AV
  rn : List AV → Bool
  rz : List AV → Bool
  ce : AV → AV → Option Bool
  ru : AV → Option AV
  zl : AV → Option (List Nat)

/-- An item that is one cell; a value without names. -/
noncomputable def cellI : AV → Bool
  | .g _ | .z _ => false
  | _ => true

noncomputable def flatI : AV → Bool
  | .b _ | .i _ _ | .f _ _ | .s _ | .ve _ | .ln _ _ _ _ => true
  | _ => false

noncomputable def byteV? : Value → Bool
  | .int .u8 (.ofNat n) => Nat.blt n 256
  | _ => false

noncomputable def byteI : AV → Bool
  | .i .u8 (.ofNat n) => Nat.blt n 256
  | .ve l => l.all byteV?
  | .g _ | .z _ => true
  | .ln _ _ q _ => Nat.beq q 1
  | _ => false

noncomputable def segI (l : List AV) (i j : Nat) : List AV := (l.drop i).take (j - i)

noncomputable def sits : AV → Option (List AV)
  | .s l => some (l.map fun b => .i .u8 b.toNat)
  | .st l => some l
  | _ => none

noncomputable def stOf (l : List AV) : Option (List UInt8) → AV
  | some s => .s s
  | none => .st l

noncomputable def mkSt (l : List AV) : AV := stOf l (bytesL l)

noncomputable def mkStB (l : List AV) : Option AV := bif l.all byteI then some (mkSt l) else none

noncomputable def withH' (h : AH) : Option AV → Option (AV × AH)
  | some v => some (v, h)
  | none => none

section
variable (ω : Or)

noncomputable def beqO (y : AV) : Option AV → Bool
  | some v => AV.beq v y
  | none => false

noncomputable def okPos (its : List AV) (y : AV) (p : Nat) : Bool := Nat.ble p its.length && beqO y (ω.rl (its.take p))

noncomputable def posS (its : List AV) (y : AV) : Nat → Nat → Option Nat
  | 0, _ => none
  | f + 1, p => bif okPos ω its y p then some p else posS its y f (p + 1)

noncomputable def pos1 (its : List AV) (y : AV) (m : Nat) : Option Nat := bif okPos ω its y m then some m else posS ω its y (its.length + 1) 0

/-- The place in a row that a number tells. -/
noncomputable def posOf (its : List AV) (y : AV) : Option Nat := match natOf y with
  | some m => pos1 ω its y m
  | none => posS ω its y (its.length + 1) 0

noncomputable def posOpt (its : List AV) (d : Nat) : Option AV → Option Nat
  | none => some d
  | some y => posOf ω its y

noncomputable def rowI (h : AH) (n : Nat) : Option (List AV) := match h.get n with
  | some (.r its) => some its
  | _ => none

noncomputable def rlO : Option (List AV) → Option AV
  | some its => ω.rl its
  | none => none

noncomputable def segO (i j : Nat) : Option (List AV) → Option (List AV)
  | some its => some (segI its i j)
  | none => none

noncomputable def sLen (P : Program) (t : TypeId) (h : AH) (x : AV) : Option AV := match P.underlying t, x with
  | some .string, .st l => ω.rl l
  | some (.slice _), .rs n i j _ => rlO ω (segO i j (rowI h n))
  | _, _ => none

noncomputable def cellAt (its : List AV) (p : Nat) : Option AV := match its.drop p with
  | v :: _ => bif cellI v then some v else none
  | [] => none

noncomputable def cellAtO (its : List AV) : Option Nat → Option AV
  | some p => cellAt its p
  | none => none

noncomputable def sIdx (y : AV) : AV → Option AV
  | .st l => cellAtO l (posOf ω l y)
  | _ => none

noncomputable def sStr (l : List AV) : Option Nat → Option Nat → Option AV
  | some a, some z => bif Nat.ble a z then some (mkSt (segI l a z)) else none
  | _, _ => none

noncomputable def sRow0 (h : AH) (n i j : Nat) (x : Bool) (its : List AV) : Option Nat → Option Nat → Option (AV × AH)
  | some a, some z => bif Nat.ble a z && Nat.ble z (j - i) then
      (bif Nat.beq a z then some (.se false h.nx, ⟨h.nx + 1, h.t⟩)
       else bif ω.rn (segI its (i + a) (i + z)) && (!x || Nat.beq z (j - i)) then some (.rs n (i + a) (i + z) x, h) else none) else none
  | _, _ => none

noncomputable def sRow1 (h : AH) (n i j : Nat) (its : List AV) : Option Nat → Option Nat → Option Nat → Option (AV × AH)
  | some a, some z, some c => bif Nat.ble a z && Nat.ble z (j - i) && Nat.beq c z then
      (bif Nat.beq a z then some (.se true h.nx, ⟨h.nx + 1, h.t⟩)
       else bif ω.rn (segI its (i + a) (i + z)) then some (.rs n (i + a) (i + z) true, h) else none) else none
  | _, _, _ => none

noncomputable def sRow (h : AH) (n i j : Nat) (x : Bool) (lo hi mx : Option AV) : Option (List AV) → Option (AV × AH)
  | some its => match mx with
    | none => sRow0 ω h n i j x its (posOpt ω (segI its i j) 0 lo) (posOpt ω (segI its i j) (j - i) hi)
    | some _ => bif hi.isSome then sRow1 ω h n i j its (posOpt ω (segI its i j) 0 lo) (posOpt ω (segI its i j) (j - i) hi) (posOpt ω (segI its i j) 0 mx) else none
  | none => none

noncomputable def sSlice (P : Program) (t : TypeId) (h : AH) (x : AV) (lo hi mx : Option AV) : Option (AV × AH) := match P.underlying t, x with
  | some .string, .st l => match mx with
    | none => withH' h (sStr l (posOpt ω l 0 lo) (posOpt ω l l.length hi))
    | some _ => none
  | some (.slice e), .rs n i j x => match szOf P e with
    | some 1 => sRow ω h n i j x lo hi mx (rowI h n)
    | _ => none
  | _, _ => none

noncomputable def sIaP (n i j : Nat) (its : List AV) : Option Nat → Option AV
  | some p => bif Nat.blt (i + p) j then (match cellAt its (i + p) with
    | some _ => some (.rp n (i + p))
    | none => none) else none
  | none => none

noncomputable def sIa1 (n i j : Nat) (y : AV) : Option (List AV) → Option AV
  | some its => sIaP n i j its (posOf ω (segI its i j) y)
  | none => none

/-- Places that lanes tell, below a bound. -/
noncomputable def plIdx (o k len : Nat) : List Value → Option (List Nat)
  | [] => some []
  | .int _ (.ofNat m) :: r => bif Nat.blt m len then (match plIdx o k len r with
    | some l => some (Nat.add o (Nat.mul m k) :: l)
    | none => none) else none
  | _ => none

noncomputable def plMk (n : Nat) : Option (List Nat) → Option AV
  | some l => some (.pl n l)
  | none => none

noncomputable def plAt (n o len : Nat) (y : AV) : Option Nat → Option AV
  | some k => match y with
    | .ve l => plMk n (plIdx o k len l)
    | _ => none
  | none => none

noncomputable def sIa (P : Program) (t : TypeId) (h : AH) (x y : AV) : Option AV := match P.underlying t, x with
  | some (.array len e), .p n o => plAt n o len y (szOf P e)
  | some (.slice e), .sl n o len _ => plAt n o len y (szOf P e)
  | some (.slice e), .so n o _ len => plAt n o len y (szOf P e)
  | some (.slice e), .rs n i j _ => match szOf P e with
    | some 1 => sIa1 ω n i j y (rowI h n)
    | _ => none
  | _, _ => none

noncomputable def plVals (h : AH) (n : Nat) : List Nat → Option (List AV)
  | [] => some []
  | o :: r => match loadC h n o 1 with
    | some [x] => match plVals h n r with
      | some l => some (x :: l)
      | none => none
    | _ => none

noncomputable def numC : AV → Option Value
  | .i k n => some (.int k n)
  | .f k n => some (.float k n)
  | _ => none

noncomputable def numCs : List AV → Option (List Value)
  | [] => some []
  | x :: r => match numC x with
    | some v => match numCs r with
      | some l => some (v :: l)
      | none => none
    | none => none

noncomputable def veOf : Option (List Value) → Option AV
  | some l => some (.ve l)
  | none => none

noncomputable def plJoin : Option (List AV) → Option AV
  | some (x :: r) => bif r.all (AV.beq x) then some x else veOf (numCs (x :: r))
  | _ => none

noncomputable def sLoad (P : Program) (t : TypeId) (h : AH) : AV → Option AV
  | .pl n l => match agg? P t with
    | some false => plJoin (plVals h n l)
    | _ => none
  | .rp n p => match agg? P t with
    | some false => match rowI h n with
      | some its => cellAt its p
      | none => none
    | _ => none
  | _ => none

/-- The items of a row, or of a text. -/
noncomputable def rits (h : AH) : AV → Option (List AV)
  | .s l => some (l.map fun b => .i .u8 b.toNat)
  | .st l => some l
  | .sn | .se _ _ => some []
  | .sl n o len _ | .so n o _ len => match loadC h n o len with
    | some l => bif l.all flatI then some l else none
    | none => none
  | .rs n i j _ => segO i j (rowI h n)
  | _ => none

noncomputable def isRow : AV → Bool
  | .sn | .se _ _ | .sl _ _ _ _ | .so _ _ _ _ | .rs _ _ _ _ => true
  | _ => false

noncomputable def mkStO : Option (List AV) → Option AV
  | some l => mkStB l
  | none => none

noncomputable def sConv (P : Program) (s d : TypeId) (h : AH) (x : AV) : Option AV := match P.underlying s, P.underlying d with
  | some .string, some .string => match x with
    | .st l => some (.st l)
    | _ => none
  | some (.slice e), some .string => match P.underlying e with
    | some (.int .u8) => bif isRow x then mkStO (rits h x) else none
    | _ => none
  | some (.slice _), _ => none
  | _, some .string => none
  | _, some (.slice _) => none
  | some _, some _ => ω.oc s d x
  | _, _ => none

noncomputable def cellsEq : List AV → List AV → Option Bool
  | [], [] => some true
  | x :: r, y :: r' => match ω.ce x y with
    | some false => some false
    | some true => cellsEq r r'
    | none => match cellsEq r r' with
      | some false => some false
      | _ => none
  | _, _ => none

noncomputable def itsEq (a b : List AV) : Option Bool :=
  bif AV.beqs a b then some true
  else bif a.isEmpty then (bif ω.rn b then some false else none)
  else bif b.isEmpty then (bif ω.rn a then some false else none)
  else bif a.all cellI && b.all cellI then (bif Nat.beq a.length b.length then cellsEq ω a b else some false) else none

noncomputable def strI (op : BinOp) (a b : List AV) : Option AV := match op with
  | .add => bif ω.rz (a ++ b) then some (mkSt (a ++ b)) else none
  | .eql => eqResO .eql (itsEq ω a b)
  | .neq => eqResO .neq (itsEq ω a b)
  | _ => none

noncomputable def sBin2 (op : BinOp) (t : TypeId) (x y : AV) : Option (List AV) → Option (List AV) → Option AV
  | some a, some b => strI ω op a b
  | none, none => ω.ob op t x y
  | _, _ => none

noncomputable def sBin (op : BinOp) (t : TypeId) (x y : AV) : Option AV := sBin2 ω op t x y (sits x) (sits y)

noncomputable def sMk1 (h : AH) : Option (List Nat) → Option (AV × AH)
  | some l => some (.rs h.nx 0 1 true, h.alloc (.r [.z l]))
  | none => none

noncomputable def isZ8 : Option AV → Bool
  | some (.i .u8 (.ofNat 0)) => true
  | _ => false

noncomputable def sMk (P : Program) (t : TypeId) (h : AH) (l c : AV) : Option (AV × AH) := match sliceEl P t with
  | some e => bif AV.beq l c && isZ8 (zeroOf P e) then (match szOf P e, bytesOf P e with
    | some 1, some bt => bif Nat.ble bt 1000 then sMk1 h (ω.zl l) else none
    | _, _ => none) else none
  | none => none

/-- A new row behind an append. -/
noncomputable def rowB (its : List AV) : AB := bif its.all cellI then .c its 1 else .r its
noncomputable def rowV (n : Nat) (its : List AV) : AV := bif its.all cellI then .so n 0 0 its.length else .rs n 0 its.length false
noncomputable def newR (h : AH) (its : List AV) : Option (AV × AH) := bif ω.rz its then some (rowV h.nx its, h.alloc (rowB its)) else none

noncomputable def appSo (h : AH) (m len : Nat) (new : List AV) : Option AB → Option (AV × AH)
  | some (.c cs w) => bif Nat.beq w 1 && Nat.beq cs.length len && cs.all flatI then newR ω (h.del m) (cs ++ new) else none
  | _ => none

noncomputable def appRs (h : AH) (m i j : Nat) (x : Bool) (new : List AV) : Option (List AV) → Option (AV × AH)
  | some its => bif x then newR ω h (segI its i j ++ new) else bif Nat.beq i 0 && Nat.beq j its.length then newR ω (h.del m) (its ++ new) else none
  | none => none

noncomputable def appSl (h : AH) (new : List AV) : Option (List AV) → Option (AV × AH)
  | some cs => bif cs.all flatI then newR ω h (cs ++ new) else none
  | none => none

noncomputable def sApp3 (h : AH) (new : List AV) : AV → Option (AV × AH)
  | .sn => newR ω h new
  | .se z _ => bif z then newR ω h new else none
  | .so m o ee len => bif Nat.beq o 0 && Nat.beq ee 0 then appSo ω h m len new (h.get m) else none
  | .sl m o len cap => bif Nat.beq len cap then appSl ω h new (loadC h m o len) else none
  | .rs m i j x => appRs ω h m i j x new (rowI h m)
  | _ => none

noncomputable def sApp2 (h : AH) (s : AV) : Option (List AV) → Option (AV × AH)
  | some [] => match s with
    | .rs _ _ _ _ => some (s, h)
    | _ => none
  | some new => bif ω.rn new then sApp3 ω h new s else none
  | none => none

noncomputable def sApp1 (h : AH) (s x : AV) : Option Nat → Option Nat → Option AV → Option (AV × AH)
  | some k, some bt, some z => bif Nat.beq k 1 && okSz k bt z then sApp2 ω h s (rits h x) else none
  | _, _, _ => none

noncomputable def sApp (P : Program) (st : TypeId) (h : AH) (s x : AV) : Option (AV × AH) := match sliceEl P st with
  | some e => sApp1 ω h s x (szOf P e) (bytesOf P e) (zeroOf P e)
  | none => none

noncomputable def sRange (P : Program) (t : TypeId) (h : AH) (x : AV) : Option (AV × AH) := match P.underlying t, x with
  | some .string, .st l => bif l.all cellI then some (.p h.nx 0, h.alloc (.sj l 0)) else none
  | _, _ => none

noncomputable def sNext1 (h : AH) (n : Nat) (l : List AV) (pos : Nat) : Option AV → Option (AV × AH)
  | some c => some (.tu [.b true, .i .i64 pos, c], h.upd n (.sj l (pos + 1)))
  | none => none

noncomputable def sNext (h : AH) (x : AV) (str : Bool) : Option (AV × AH) := match x with
  | .p n 0 => match h.get n, str with
    | some (.sj l pos), true => match l.drop pos with
      | [] => some (.tu [.b false], h)
      | v :: _ => sNext1 h n l pos (ω.ru v)
    | _, _ => none
  | _ => none

variable (P : Program) (ρ : Operand → Option AV)

noncomputable def opt2 (f : AV → AV → Option AV) : Option AV → Option AV → Option AV
  | some a, some c => f a c
  | _, _ => none

noncomputable def opt1 (f : AV → Option AV) : Option AV → Option AV
  | some a => f a
  | none => none

noncomputable def opt1h (f : AV → Option (AV × AH)) : Option AV → Option (AV × AH)
  | some a => f a
  | none => none

noncomputable def opt2h (f : AV → AV → Option (AV × AH)) : Option AV → Option AV → Option (AV × AH)
  | some a, some c => f a c
  | _, _ => none

/-- An operand that may be left out. -/
noncomputable def opO : Option Operand → Option (Option AV)
  | none => some none
  | some x => match ρ x with
    | some v => some (some v)
    | none => none

noncomputable def sSliceO (t : TypeId) (h : AH) : Option AV → Option (Option AV) → Option (Option AV) → Option (Option AV) → Option (AV × AH)
  | some v, some a, some z, some c => sSlice ω P t h v a z c
  | _, _, _, _ => none

noncomputable def sBu (h : AH) (b : Builtin) (ats : Array TypeId) (args : List AV) : Option R := match b with
  | .append => match ats[0]?, ats[1]?, args with
    | some st, some xt, [s, x] => bif plainTy P xt then o2 (sApp ω P st h s x) else none
    | _, _, _ => none
  | .len => match ats[0]?, args with
    | some t, [x] => o1 h (sLen ω P t h x)
    | _, _ => none
  | _ => none

noncomputable def sBuO (h : AH) (b : Builtin) (ats : Array TypeId) : Option (List AV) → Option R
  | some l => sBu ω P h b ats l
  | none => none

noncomputable def sCall (h : AH) (c : Call) : Option R := match c.callee with
  | .builtin b => sBuO ω P h b c.argTypes (evs ρ c.args.toList)
  | _ => none

noncomputable def opS (h : AH) : Op → Option R
  | .binOp bo ty x y _ => o1 h (opt2 (sBin ω bo ty) (ρ x) (ρ y))
  | .unOp u _ x => o1 h (opt1 (ω.ou u) (ρ x))
  | .convert s d x => o1 h (opt1 (sConv ω P s d h) (ρ x))
  | .index ty x y => bif isStr P ty then o1 h (opt2 (fun a c => sIdx ω c a) (ρ x) (ρ y)) else none
  | .slice ty x lo hi mx => o2 (sSliceO ω P ty h (ρ x) (opO ρ lo) (opO ρ hi) (opO ρ mx))
  | .indexAddr ty x y => o1 h (opt2 (sIa ω P ty h) (ρ x) (ρ y))
  | .load ty a => o1 h (opt1 (sLoad P ty h) (ρ a))
  | .makeSlice ty l c => o2 (opt2h (sMk ω P ty h) (ρ l) (ρ c))
  | .range ty x => o2 (opt1h (sRange P ty h) (ρ x))
  | .next it str => o2 (opt1h (fun a => sNext ω h a str) (ρ it))
  | .call c => sCall ω P ρ h c
  | _ => none

noncomputable def orS (h : AH) (o : Op) : Option R → Option R
  | some x => some x
  | none => opS ω P ρ h o

noncomputable def opX (h : AH) (o : Op) : Option R := orS ω P ρ h o (opD P ρ h o)
end

noncomputable def op (ω : Or) (P : Program) (gs : Nat) (t : Tr AV) (h : AH) (o : Oper) : Option R := opX ω P (ev gs t) h o.op

end Go.Ae
namespace Go.Ae
open Go

inductive Stp where
  | take (i : Nat) (rd : Bool)
  | force (j : Nat) (z : Bool)
  | pair (j i : Nat)

inductive K where
  | pur
  | slc
  | rd
  | eff
  | bs

noncomputable def kindB (P : Program) (b : Builtin) (ats : Array TypeId) : K := match b with
  | .len => match ats[0]? with
    | some t => match P.underlying t with
      | some .string => .pur
      | some (.slice _) => .pur
      | _ => .rd
    | none => .eff
  | .max | .min => .pur
  | _ => .eff

noncomputable def kind (P : Program) (o : Oper) : K := match o.op with
  | .move _ | .pick .. | .build .. | .nilCheck _ | .unOp .. | .makeFunc .. | .fieldAddr .. | .field .. | .indexAddr .. | .extract .. | .index .. => .pur
  | .slice .. => .slc
  | .binOp _ t _ _ _ => match P.underlying t with
    | some (.pointer _) => .rd
    | _ => .pur
  | .convert _ d _ => match P.underlying d with
    | some .string => .rd
    | some (.slice _) => .eff
    | _ => .pur
  | .load .. | .lookup .. | .entry _ => .rd
  | .buildSlice .. => .bs
  | .call c => match c.callee with
    | .builtin b => kindB P b c.argTypes
    | _ => .eff
  | _ => .eff

noncomputable def kindAt (P : Program) (ops : Array Oper) (i : Nat) : K := match ops[i]? with
  | some o => kind P o
  | none => .eff

noncomputable def dep (ops : Array Oper) (j i : Nat) : Bool := match ops[j]? with
  | some o => o.after.toList.any fun e => Region.binds .any e && e.on == i
  | none => false

noncomputable def firstPur (P : Program) (ops : Array Oper) (listed : Array Bool) (rd : Bool) : List Nat → Option (Nat × Bool)
  | [] => none
  | i :: r => match kindAt P ops i with
    | .pur => bif Region.free .any ops listed i then some (i, false) else firstPur P ops listed rd r
    | .rd => bif rd && Region.free .any ops listed i then some (i, true) else firstPur P ops listed rd r
    | _ => firstPur P ops listed rd r

noncomputable def firstSlc (P : Program) (ops : Array Oper) (listed : Array Bool) : List Nat → Option Nat
  | [] => none
  | i :: r => match kindAt P ops i with
    | .slc => bif Region.free .any ops listed i then some i else firstSlc P ops listed r
    | _ => firstSlc P ops listed r

/-- rds: the reads that were taken; z: whether an op waits for all of them. -/
noncomputable def mkPlan (P : Program) (ops : Array Oper) : Nat → Array Bool → Bool → List Nat → Option (List Stp)
  | 0, _, _, _ => none
  | f + 1, listed, early, rds => match Region.ready .any ops listed with
    | [] => some []
    | [j] => (mkPlan P ops f (listed.setIfInBounds j true) (early && (match kindAt P ops j with | .pur | .rd | .slc => true | _ => false)) rds).map (.force j (rds.all (dep ops j)) :: ·)
    | R => match firstPur P ops listed early R with
      | some (i, r) => (mkPlan P ops f (listed.setIfInBounds i true) early (bif r then i :: rds else rds)).map (.take i r :: ·)
      | none => match firstSlc P ops listed R with
        | some i => (mkPlan P ops f (listed.setIfInBounds i true) early rds).map (.take i false :: ·)
        | none => match R with
          | [a, c] =>
            let go (j i : Nat) : Option (List Stp) :=
              bif Region.ready .any ops (listed.setIfInBounds i true) == [j] && Region.ready .any ops (listed.setIfInBounds j true) == [i] then
                (mkPlan P ops f ((listed.setIfInBounds j true).setIfInBounds i true) false rds).map (.pair j i :: ·) else none
            match kindAt P ops a, kindAt P ops c with
            | .eff, .bs => go a c
            | .bs, .eff => go c a
            | _, _ => none
          | _ => none

noncomputable def Stp.cost : Stp → Nat
  | .pair _ _ => 2
  | _ => 1

noncomputable def costs : List Stp → Nat
  | [] => 0
  | x :: l => x.cost + costs l

noncomputable def fits (m : Nat) : Option (List Stp) → Option (List Stp)
  | some pl => bif Nat.ble (costs pl) m then some pl else none
  | none => none

noncomputable def plan (P : Program) (ops : Array Oper) : Option (List Stp) :=
  bif Region.noSelect ops then fits ops.size (mkPlan P ops (ops.size + 1) (Array.replicate ops.size false) true []) else none

structure Cfg where
  P : Program
  ω : Or
  gs : Nat
  spec : Nat → Option (List AV → AH → Option (AV × AH))
  ext : Nat → Option (List AV → Option AV)

structure St where
  t : Tr AV
  h : AH
  d : List (Nat × List AV)

inductive Ex where
  | nrm
  | ex (id : Nat)
  | gt (l : Nat)
  | ret

abbrev Rec := Option Code → Nat → Code → St → Option (Ex × St)

/-- n: how many temporaries there are. -/
noncomputable def putT (n : Nat) (t : Tr AV) (h : AH) (d : List (Nat × List AV)) (dst : Option Tmp) (v : AV) : Option St := match dst with
  | none => some ⟨t, h, d⟩
  | some x => bif Nat.blt x n then some ⟨t.set x (some v), h, d⟩ else none

noncomputable def want (ops : Array Oper) (t : Tr AV) (o : Oper) : Option Bool := match o.guard with
  | none => some true
  | some (j, w) => match ops[j]? with
    | some oj => match oj.dst with
      | some d => match t.get d with
        | some (.b x) => some (x == w)
        | some (.tu _) => some false
        | _ => none
      | none => none
    | none => none

noncomputable def mkT : Nat → List AV → Tr AV → Tr AV
  | _, [], t => t
  | k, x :: r, t => mkT (k + 1) r (t.set k (some x))

section
variable (C : Cfg)

noncomputable def cons1 : Option AV → Option (List AV) → Option (List AV)
  | some v, some l => some (v :: l)
  | _, _ => none

noncomputable def loadP (P : Program) (ty : TypeId) (h : AH) : Option (Nat × Nat) → Option AV
  | some x => loadT P ty h x.1 x.2
  | none => none

noncomputable def resV (t : Tr AV) (h : AH) : ResultVar → Option AV
  | .tmp x => t.get x
  | .cell x ty => loadP C.P ty h (asP (t.get x))

noncomputable def resA (t : Tr AV) (h : AH) : List ResultVar → Option (List AV)
  | [] => some []
  | x :: r => cons1 (resV C t h x) (resA t h r)

noncomputable def res1 : Option (List AV) → Option AV
  | some [v] => some v
  | some l => some (.tu l)
  | none => none

noncomputable def results (fn : Func) (t : Tr AV) (h : AH) : Option AV := res1 (resA C t h fn.results.toList)

variable (rec : Rec)

noncomputable def ended (fn : Func) : Option (Ex × St) → Option (Func × St)
  | some (.nrm, s) => some (fn, s)
  | some (.ret, s) => some (fn, s)
  | _ => none

noncomputable def bodyF (fn : Func) (args : List AV) (h : AH) : Option Code → Option (Func × St)
  | some c => ended fn (rec none (Nat.max args.length fn.ntmps) c ⟨mkT 0 args .e, h, []⟩)
  | none => none

noncomputable def body1 (args : List AV) (h : AH) : Option Func → Option (Func × St)
  | some fn => bodyF rec fn args h fn.body
  | none => none

noncomputable def body (f : Nat) (args : List AV) (h : AH) : Option (Func × St) := body1 rec args h C.P.funcs[f]?

/-- How a deferred call ends: it defers nothing, and has results. -/
noncomputable def ended0 : Option (Func × St) → Option AH
  | some (fn, ⟨t, h, []⟩) => match results C fn t h with
    | some _ => some h
    | none => none
  | _ => none

noncomputable def noSpec (f : Nat) : Bool := match C.spec f with
  | some _ => false
  | none => true

noncomputable def defers : List (Nat × List AV) → AH → Option AH
  | [], h => some h
  | x :: r, h => bif noSpec C x.1 then (match ended0 C (body C rec x.1 x.2 h) with
    | some h' => defers r h'
    | none => none) else none

noncomputable def withH (h : AH) : Option AV → Option (AV × AH)
  | some v => some (v, h)
  | none => none

noncomputable def leave (fn : Func) (t : Tr AV) : Option AH → Option (AV × AH)
  | some h => withH h (results C fn t h)
  | none => none

noncomputable def leave1 : Option (Func × St) → Option (AV × AH)
  | some (fn, ⟨t, h, d⟩) => leave C fn t (defers C rec d h)
  | none => none

noncomputable def call1 (f : Nat) (args : List AV) (h : AH) : Option (List AV → AH → Option (AV × AH)) → Option (AV × AH)
  | some g => g args h
  | none => leave1 C rec (body C rec f args h)

noncomputable def call (f : Nat) (args : List AV) (h : AH) : Option (AV × AH) := call1 C rec f args h (C.spec f)

variable (n : Nat)

noncomputable def putR (t : Tr AV) (d : List (Nat × List AV)) (dst : Option Tmp) : Option (AV × AH) → Option St
  | some (v, h) => putT n t h d dst v
  | none => none

noncomputable def callE (t : Tr AV) (h : AH) (d : List (Nat × List AV)) (dst : Option Tmp) (f : Nat) (args : List AV) : Option (List AV → Option AV) → Option St
  | some g => putR n t d dst (withH h (g args))
  | none => putR n t d dst (call C rec f args h)

noncomputable def opR (t : Tr AV) (h0 : AH) (d : List (Nat × List AV)) (dst : Option Tmp) : Option R → Option St
  | some (.v x h) => putT n t h d dst x
  | some (.sk h) => putT n t h d dst (.tu [])
  | some (.df f args) => putT n t h0 ((f, args) :: d) dst (.tu [])
  | some (.call f args) => callE C rec n t h0 d dst f args (C.ext f)
  | none => none

noncomputable def opE (o : Oper) : St → Option St
  | ⟨t, h, d⟩ => opR C rec n t h d o.dst (op C.ω C.P C.gs t h o)

noncomputable def skipE (o : Oper) : St → Option St
  | ⟨t, h, d⟩ => putT n t h d o.dst (.tu [])

noncomputable def opG (o : Oper) (s : St) : Option Bool → Option St
  | some true => opE C rec n o s
  | some false => skipE n o s
  | none => none

noncomputable def opW (ops : Array Oper) (o : Oper) : St → Option St
  | ⟨t, h, d⟩ => opG C rec n o ⟨t, h, d⟩ (want ops t o)

noncomputable def aops (ops : Array Oper) : List Oper → St → Option St
  | [], s => some s
  | o :: r, s => match opW C rec n ops o s with
    | some s' => aops ops r s'
    | none => none

structure Rd where
  t : Tr AV
  o : Oper
  v : AV

noncomputable def asV : Option R → Option (AV × AH)
  | some (.v x h) => some (x, h)
  | _ => none

noncomputable def recheck1 (v : AV) : Option (AV × AH) → Bool
  | some x => AV.beq x.1 v
  | none => false

noncomputable def recheck (h : AH) : List Rd → Bool
  | [] => true
  | e :: r => bif recheck1 e.v (asV (op C.ω C.P C.gs e.t h e.o)) then recheck h r else false

noncomputable def withRd (rds : List Rd) : Option St → Option (St × List Rd)
  | some s => some (s, rds)
  | none => none

noncomputable def take1 (t : Tr AV) (h : AH) (d : List (Nat × List AV)) (o : Oper) (r : Bool) (rds : List Rd) : Option (AV × AH) → Option (St × List Rd)
  | some x => bif Nat.beq x.2.nx h.nx then withRd (bif r then ⟨t, o, x.1⟩ :: rds else rds) (putT n t h d o.dst x.1) else none
  | none => none

noncomputable def takeG (t : Tr AV) (h : AH) (d : List (Nat × List AV)) (o : Oper) (r : Bool) (rds : List Rd) : Option Bool → Option (St × List Rd)
  | some true => take1 n t h d o r rds (asV (op C.ω C.P C.gs t h o))
  | some false => withRd rds (putT n t h d o.dst (.tu []))
  | none => none

noncomputable def takeO (ops : Array Oper) (r : Bool) (rds : List Rd) : Option Oper → St → Option (St × List Rd)
  | some o, ⟨t, h, d⟩ => takeG C n t h d o r rds (want ops t o)
  | none, _ => none

noncomputable def forceO (ops : Array Oper) (s : St) : Option Oper → Option St
  | some o => opW C rec n ops o s
  | none => none

noncomputable def checked (z : Bool) (rds : List Rd) : Option St → Option (St × List Rd)
  | some s => bif z then some (s, rds) else bif recheck C s.h rds then some (s, rds) else none
  | none => none

noncomputable def clear (dst : Option Tmp) : St → St
  | ⟨t, h, d⟩ => match dst with
    | some x => ⟨t.set x none, h, d⟩
    | none => ⟨t, h, d⟩

noncomputable def rowOf (t : Tr AV) (o : Oper) : Option (Nat × List AV) := match o.op with
  | .buildSlice ty len ps => withN len (rowC C.P (ev C.gs t) ty len ps)
  | _ => none

noncomputable def pairR (rds : List Rd) (dst : Option Tmp) (x : Nat × List AV) : Option St → Option St
  | some ⟨t, h, d⟩ => bif recheck C h rds then putT n t (h.alloc (.c x.2 0)) d dst (.sl h.nx 0 x.1 x.1) else none
  | none => none

noncomputable def pairS (rds : List Rd) (dst : Option Tmp) : Option St → Option St
  | some ⟨t, h, d⟩ => bif recheck C h rds then putT n t h d dst (.tu []) else none
  | none => none

noncomputable def pairW (ops : Array Oper) (rds : List Rd) (oj oi : Oper) (s : St) : Option Bool → Option St
  | some true => match rowOf C s.t oi with
    | some x => bif x.2.all AV.one then pairR C n rds oi.dst x (opW C rec n ops oj s) else none
    | none => none
  | some false => pairS C n rds oi.dst (opW C rec n ops oj s)
  | none => none

noncomputable def pair0 (ops : Array Oper) (rds : List Rd) (oj oi : Oper) (s : St) : Option St :=
  bif oi.apart ops oj && oj.apart ops oi then pairW C rec n ops rds oj oi s (want ops s.t oi) else none

noncomputable def pair1 (ops : Array Oper) (rds : List Rd) (s : St) : Option Oper → Option Oper → Option St
  | some oj, some oi => bif recheck C s.h rds then pair0 C rec n ops rds oj oi (clear oi.dst s) else none
  | _, _ => none

noncomputable def stp (ops : Array Oper) (s : St) (rds : List Rd) : Stp → Option (St × List Rd)
  | .take i r => takeO C n ops r rds ops[i]? s
  | .force j z => checked C z rds (forceO C rec n ops s ops[j]?)
  | .pair j i => checked C false rds (pair1 C rec n ops rds s ops[j]? ops[i]?)

noncomputable def adraw (ops : Array Oper) : List Stp → List Rd → St → Option St
  | [], _, s => some s
  | x :: l, rds, s => match stp C rec n ops s rds x with
    | some y => adraw ops l y.2 y.1
    | none => none

noncomputable def nrm : Option St → Option (Ex × St)
  | some s => some (.nrm, s)
  | none => none

noncomputable def thn (b : Code) : Option (Ex × St) → Option (Ex × St)
  | some (.nrm, s) => rec none n b s
  | r => r

noncomputable def blk (id : Nat) : Option (Ex × St) → Option (Ex × St)
  | some (.ex id', s) => bif Nat.beq id' id then some (.nrm, s) else some (.ex id', s)
  | r => r

/-! Every order, where the plan knows none. -/

noncomputable def quietK : K → Bool
  | .eff => false
  | _ => true

noncomputable def quietO (ops : Array Oper) (s : St) : Option Oper → Option St
  | some o => bif quietK (kind C.P o) then opW C rec n ops o s else none
  | none => none

noncomputable def stOf1 : Option (St × List Rd) → Option St
  | some x => some x.1
  | none => none

noncomputable def takeQ (ops : Array Oper) (s : St) (o : Option Oper) : Option St := stOf1 (takeO C n ops false [] o s)

structure Leaf where
  l : Array Bool
  s : St
  k : Nat

noncomputable def allL (f : Nat → Option (List Leaf)) : List Nat → Option (List Leaf)
  | [] => some []
  | j :: r => match f j with
    | some a => match allL f r with
      | some b => some (a ++ b)
      | none => none
    | none => none

noncomputable def bindS (f : St → Option (List Leaf)) : Option St → Option (List Leaf)
  | some s => f s
  | none => none

noncomputable def leaves (ops : Array Oper) : Nat → Nat → Array Bool → St → Option (List Leaf)
  | 0, _, _, _ => none
  | f + 1, k, listed, s => match Region.ready .any ops listed with
    | [] => some [⟨listed, s, k⟩]
    | [j] => bif quietK (kindAt C.P ops j) then bindS (leaves ops f (k + 1) (listed.setIfInBounds j true)) (quietO C rec n ops s ops[j]?) else some [⟨listed, s, k⟩]
    | R => match firstPur C.P ops listed false R with
      | some (i, _) => bindS (leaves ops f (k + 1) (listed.setIfInBounds i true)) (takeQ C n ops s ops[i]?)
      | none => allL (fun j => bindS (leaves ops f (k + 1) (listed.setIfInBounds j true)) (quietO C rec n ops s ops[j]?)) R

noncomputable def isV (v : AV) : Option AV → Bool
  | some u => AV.beq u v
  | none => false

noncomputable def joinT (ls : List Leaf) (t : Tr AV) : Nat → Tr AV → Tr AV
  | 0, u => u
  | x + 1, u => match t.get x with
    | some v => bif ls.all (fun l => isV v (l.s.t.get x)) then joinT ls t x (u.set x (some v)) else joinT ls t x u
    | none => joinT ls t x u

noncomputable def sameL (l : Leaf) (m : Leaf) : Bool := m.l.toList == l.l.toList && Nat.beq m.s.h.nx l.s.h.nx && Nat.beq m.k l.k

noncomputable def joinL (s : St) : Option (List Leaf) → Option Leaf
  | some (l :: ls) => bif ls.all (sameL l) then some ⟨l.l, ⟨joinT ls l.s.t n .e, ⟨l.s.h.nx, s.h.t⟩, s.d⟩, l.k⟩ else none
  | _ => none

noncomputable def moreC (k : Nat) : Option (St × Nat) → Option (St × Nat)
  | some x => some (x.1, x.2 + k)
  | none => none

noncomputable def forkR (ops : Array Oper) : Nat → Array Bool → St → Option (St × Nat)
  | 0, _, _ => none
  | f + 1, listed, s => match Region.ready .any ops listed with
    | [] => some (s, 0)
    | [j] => match forceO C rec n ops s ops[j]? with
      | some s' => moreC 1 (forkR ops f (listed.setIfInBounds j true) s')
      | none => none
    | _ => match joinL n s (leaves C rec n ops (ops.size + 1) 0 listed s) with
      | some l => bif Nat.blt 0 l.k then moreC l.k (forkR ops f l.l l.s) else none
      | none => none

noncomputable def ended2 (m : Nat) : Option (St × Nat) → Option (Ex × St)
  | some x => bif Nat.ble x.2 m then some (.nrm, x.1) else none
  | none => none

noncomputable def drawn2 (ops : Array Oper) (s : St) : Option (Ex × St) :=
  bif Region.noSelect ops then ended2 ops.size (forkR C rec n ops (ops.size + 1) (Array.replicate ops.size false) s) else none

noncomputable def drawn (ops : Array Oper) (s : St) : Option (List Stp) → Option (Ex × St)
  | some pl => nrm (adraw C rec n ops pl [] s)
  | none => drawn2 C rec n ops s

noncomputable def brn (a b : Code) (s : St) : Option Bool → Option (Ex × St)
  | some x => bif x then rec none n a s else rec none n b s
  | none => none

noncomputable def toLab (bd : Code) (l : Nat) (s : St) : Option Code → Option (Ex × St)
  | some rest => rec (some bd) n rest s
  | none => some (.gt l, s)

noncomputable def scp (bd : Code) : Option (Ex × St) → Option (Ex × St)
  | some (.gt l, s) => toLab rec n bd l s (findLabel bd l)
  | r => r

noncomputable def reg (ops : Array Oper) (s : St) (d : Bool) : Option (Ex × St) :=
  bif d then drawn C rec n ops s (plan C.P ops) else nrm (aops C rec n ops ops.toList s)

noncomputable def stepD (c : Code) (s : St) : Option (Ex × St) := match c with
  | .skip => some (.nrm, s)
  | .label _ => some (.nrm, s)
  | .seq a b => thn rec n b (rec none n a s)
  | .cond x a b => brn rec n a b s (asB (ev C.gs s.t x))
  | .block id b => blk id (rec none n b s)
  | .loop b => thn rec n (.loop b) (rec none n b s)
  | .scope b => rec (some b) n b s
  | .exit id => some (.ex id, s)
  | .goto l => some (.gt l, s)
  | .ret => some (.ret, s)
  | .region _ ops d => reg C rec n ops s d
  | _ => none
end

noncomputable def stepC (C : Cfg) (rec : Rec) : Rec := fun sc n c s => match sc with
  | some bd => scp rec n bd (rec none n c s)
  | none => stepD C rec n c s

noncomputable def run (C : Cfg) : Nat → Rec
  | 0 => fun _ _ _ _ => none
  | f + 1 => stepC C (run C f)

end Go.Ae
namespace Go.Ae
open Go

/-! ### Trees -/

def valP : Pa → Nat
  | .z => 0
  | .l p => 2 * valP p + 1
  | .r p => 2 * valP p + 2

theorem valP_pathF : ∀ (f k : Nat), k < f → valP (pathF f k) = k
  | 0, k, h => by omega
  | f + 1, k, h => by
    unfold pathF
    cases h0 : Nat.beq k 0 with
    | true => have := Nat.eq_of_beq_eq_true h0; subst this; rfl
    | false =>
      have hk : k ≠ 0 := fun e => by subst e; simp at h0
      cases h1 : Nat.beq (Nat.mod k 2) 1 with
      | true =>
        have := Nat.eq_of_beq_eq_true h1
        have e : Nat.mod k 2 = k % 2 := rfl
        have e2 : Nat.div k 2 = k / 2 := rfl
        simp only [cond_false, cond_true, valP, e2]
        rw [valP_pathF f (k / 2) (by omega)]
        omega
      | false =>
        have e : Nat.mod k 2 = k % 2 := rfl
        have e2 : Nat.div k 2 = k / 2 := rfl
        have : k % 2 ≠ 1 := fun x => by rw [e, x] at h1; simp at h1
        simp only [cond_false, valP, e2, Nat.pred_eq_sub_one]
        rw [valP_pathF f (k / 2 - 1) (by omega)]
        omega

theorem path_inj {j k : Nat} (h : path j = path k) : j = k := by
  have := congrArg valP h
  rw [path, path, valP_pathF _ _ (by simp), valP_pathF _ _ (by simp)] at this
  exact this

theorem Tr.getP_setP {α : Type} (x : Option α) : ∀ (p : Pa) (t : Tr α), Tr.getP p (Tr.setP x p t) = x
  | .z, .e => rfl
  | .z, .n _ _ _ => rfl
  | .l p, .e => Tr.getP_setP x p .e
  | .l p, .n l _ _ => Tr.getP_setP x p l
  | .r p, .e => Tr.getP_setP x p .e
  | .r p, .n _ _ r => Tr.getP_setP x p r

theorem Tr.getP_e {α : Type} : ∀ (p : Pa), Tr.getP p (.e : Tr α) = none
  | .z => rfl
  | .l _ => rfl
  | .r _ => rfl

theorem Tr.getP_setP_ne {α : Type} (x : Option α) : ∀ (p q : Pa) (t : Tr α), p ≠ q → Tr.getP q (Tr.setP x p t) = Tr.getP q t
  | .z, .z, _, h => (h rfl).elim
  | .z, .l q, .e, _ => Tr.getP_e q
  | .z, .r q, .e, _ => Tr.getP_e q
  | .z, .l _, .n _ _ _, _ => rfl
  | .z, .r _, .n _ _ _, _ => rfl
  | .l _, .z, .e, _ => rfl
  | .l _, .z, .n _ _ _, _ => rfl
  | .l p, .l q, .e, h => (Tr.getP_setP_ne x p q .e (fun e => h (e ▸ rfl))).trans (Tr.getP_e q)
  | .l p, .l q, .n l _ _, h => Tr.getP_setP_ne x p q l (fun e => h (e ▸ rfl))
  | .l _, .r q, .e, _ => Tr.getP_e q
  | .l _, .r _, .n _ _ _, _ => rfl
  | .r _, .z, .e, _ => rfl
  | .r _, .z, .n _ _ _, _ => rfl
  | .r p, .r q, .e, h => (Tr.getP_setP_ne x p q .e (fun e => h (e ▸ rfl))).trans (Tr.getP_e q)
  | .r p, .r q, .n _ _ r, h => Tr.getP_setP_ne x p q r (fun e => h (e ▸ rfl))
  | .r _, .l q, .e, _ => Tr.getP_e q
  | .r _, .l _, .n _ _ _, _ => rfl

theorem Tr.get_set {α : Type} (t : Tr α) (k : Nat) (x : Option α) : (t.set k x).get k = x := Tr.getP_setP x _ t
theorem Tr.get_set_ne {α : Type} (t : Tr α) {j k : Nat} (x : Option α) (h : j ≠ k) : (t.set j x).get k = t.get k :=
  Tr.getP_setP_ne x _ _ t fun e => h (path_inj e)
theorem Tr.get_set_eq {α : Type} (t : Tr α) (j k : Nat) (x : Option α) : (t.set j x).get k = if j = k then x else t.get k := by
  split
  · rename_i h; subst h; exact Tr.get_set t j x
  · rename_i h; exact Tr.get_set_ne t x h
theorem Tr.get_e {α : Type} (k : Nat) : (Tr.e : Tr α).get k = none := Tr.getP_e _

theorem AH.get_alloc (h : AH) (b : AB) (n : Nat) : (h.alloc b).get n = if h.nx = n then some b else h.get n := Tr.get_set_eq _ _ _ _
theorem AH.get_upd (h : AH) (m : Nat) (b : AB) (n : Nat) : (h.upd m b).get n = if m = n then some b else h.get n := Tr.get_set_eq _ _ _ _
theorem AH.get_del (h : AH) (m n : Nat) : (h.del m).get n = if m = n then none else h.get n := Tr.get_set_eq _ _ _ _
theorem AH.nx_alloc (h : AH) (b : AB) : (h.alloc b).nx = h.nx + 1 := rfl
theorem AH.nx_upd (h : AH) (m : Nat) (b : AB) : (h.upd m b).nx = h.nx := rfl
theorem AH.nx_del (h : AH) (m : Nat) : (h.del m).nx = h.nx := rfl

/-! ### Values -/

/-- What a name stands for: a block, how many elements it has room for, a place in it. -/
structure NE where
  b : Nat
  k : Nat
  o : Nat
  ws : List Nat

abbrev Nu := List NE

/-- What is not known: single values; which lane; rows of bytes. -/
structure Sg where
  v : Nat → Value
  i : Nat
  g : Nat → List UInt8

def byteV (b : UInt8) : Value := .int .u8 b.toNat

/-- How long rows of bytes are together. -/
def sumG (σ : Sg) : List Nat → Nat
  | [] => 0
  | k :: l => (σ.g k).length + sumG σ l

/-- A number that hangs on lengths. -/
def lnV (σ : Sg) (a : Int) (l : List Nat) (q k : Nat) : Value :=
  let x := (a + sumG σ l) / (256 : Int) ^ k
  match q with
  | 0 => .int .i64 x
  | 1 => .int .u8 (x % 256)
  | 2 => .int .i64 (x % 256)
  | _ => .int .i64 (x * 256)

/-- The cells that an item stands for. -/
noncomputable def cc (σ : Sg) : AV → List Value
  | .b x => [.bool x]
  | .i k n => [.int k n]
  | .f k n => [.float k n]
  | .s l => [.string ⟨l.toArray⟩]
  | .ve l => match l[σ.i]? with
    | some v => bif numV v then [v] else []
    | none => []
  | .ln a l q k => [lnV σ a l q k]
  | .g k => (σ.g k).map byteV
  | .z l => List.replicate (l.getD σ.i 0) (.int .u8 0)
  | _ => []

noncomputable def ccs (σ : Sg) (l : List AV) : List Value := l.flatMap (cc σ)

/-- An item that stands for something. -/
def iok1 (σ : Sg) (v : AV) : Prop := cellI v = true → ∃ c, cc σ v = [c] ∧ c.oneCell' = true
def iok (σ : Sg) (v : AV) : Prop := iok1 σ v ∧ ∀ l, v = .z l → σ.i < l.length

def ioks (σ : Sg) (l : List AV) : Prop := ∀ v, v ∈ l → iok σ v

noncomputable def widths (σ : Sg) (l : List AV) : List Nat := l.map fun v => (cc σ v).length

/-- How far a place in a row is from its start. -/
def offW (ws : List Nat) (i : Nat) : Nat := (ws.take i).sum

section
variable (σ : Sg) (ν : Nu)

mutual
def vrel : AV → Value → Prop
  | .b x, c => c = .bool x
  | .i k n, c => c = .int k n
  | .f k n, c => c = .float k n
  | .s l, c => c = .string ⟨l.toArray⟩
  | .pn, c => c = .pointer none
  | .p n o, c => ∃ e, ν[n]? = some e ∧ c = .pointer (some ⟨e.b, o, none⟩)
  | .sn, c => c = .slice none 0 0
  | .sl n o len cap, c => ∃ e, ν[n]? = some e ∧ c = .slice (some ⟨e.b, o, none⟩) len cap
  | .so n o ee len, c => ∃ e, ν[n]? = some e ∧ ee + len ≤ e.k ∧ c = .slice (some ⟨e.b, o, none⟩) len (e.k - ee)
  | .se z n, c => ∃ e, ν[n]? = some e ∧ c = .slice (some ⟨e.b, e.o, none⟩) 0 (bif z then 0 else e.k)
  | .mn, c => c = .map none
  | .m n, c => ∃ e, ν[n]? = some e ∧ c = .map (some e.b)
  | .fn f a cp, c => ∃ as cs, vrels a as ∧ vrels cp cs ∧ c = .func f as.toArray cs.toArray
  | .fnil, c => c = .nilFunc
  | .ifc t v, c => ∃ v', vrel v v' ∧ c = .iface t v'
  | .inil, c => c = .nilIface
  | .ag l, c => ∃ cs, vrels l cs ∧ c = .agg cs.toArray
  | .tu l, c => ∃ cs, vrels l cs ∧ c = .tuple cs.toArray
  | .sym k, c => c = σ.v k ∧ c.oneCell' = true
  | .ve l, c => l[σ.i]? = some c ∧ numV c = true
  | .st l, c => ∃ bs : List UInt8, c = .string ⟨bs.toArray⟩ ∧ ccs σ l = bs.map byteV ∧ ioks σ l
  | .rs n i j x, c => ∃ e, ν[n]? = some e ∧ i ≤ j ∧ j ≤ e.ws.length ∧ offW e.ws j ≤ e.k ∧ c = .slice (some ⟨e.b, offW e.ws i, none⟩) (offW e.ws j - offW e.ws i) (bif x then offW e.ws j - offW e.ws i else e.k - offW e.ws i)
  | .rp n i, c => ∃ e, ν[n]? = some e ∧ c = .pointer (some ⟨e.b, offW e.ws i, none⟩)
  | .pl n l, c => ∃ e o, ν[n]? = some e ∧ l[σ.i]? = some o ∧ c = .pointer (some ⟨e.b, o, none⟩)
  | .ln a l q k, c => c = lnV σ a l q k
  | .g _, _ => False
  | .z _, _ => False
def vrels : List AV → List Value → Prop
  | [], cs => cs = []
  | x :: r, cs => ∃ c cs', vrel x c ∧ vrels r cs' ∧ cs = c :: cs'
end
end

section
variable {σ : Sg} {ν ν' : Nu}

theorem pre_get {n : Nat} {e : NE} {μ : Nu} (h : ν[n]? = some e) : (ν ++ μ)[n]? = some e := by
  rw [List.getElem?_append_left (List.getElem?_eq_some_iff.1 h).1]
  exact h

mutual
theorem vrel_mono (μ : Nu) : ∀ (v : AV) (c : Value), vrel σ ν v c → vrel σ (ν ++ μ) v c
  | .b _, _, h => h
  | .i _ _, _, h => h
  | .f _ _, _, h => h
  | .s _, _, h => h
  | .pn, _, h => h
  | .p _ _, _, ⟨e, h, r⟩ => ⟨e, pre_get h, r⟩
  | .sn, _, h => h
  | .sl _ _ _ _, _, ⟨e, h, r⟩ => ⟨e, pre_get h, r⟩
  | .so _ _ _ _, _, ⟨e, h, r⟩ => ⟨e, pre_get h, r⟩
  | .se _ _, _, ⟨e, h, r⟩ => ⟨e, pre_get h, r⟩
  | .mn, _, h => h
  | .m _, _, ⟨e, h, r⟩ => ⟨e, pre_get h, r⟩
  | .fn _ a cp, _, ⟨as, cs, h1, h2, r⟩ => ⟨as, cs, vrels_mono μ a as h1, vrels_mono μ cp cs h2, r⟩
  | .fnil, _, h => h
  | .ifc _ v, _, ⟨v', h, r⟩ => ⟨v', vrel_mono μ v v' h, r⟩
  | .inil, _, h => h
  | .ag l, _, ⟨cs, h, r⟩ => ⟨cs, vrels_mono μ l cs h, r⟩
  | .tu l, _, ⟨cs, h, r⟩ => ⟨cs, vrels_mono μ l cs h, r⟩
  | .sym _, _, h => h
  | .ve _, _, h => h
  | .st _, _, h => h
  | .rs _ _ _ _, _, ⟨e, h, r⟩ => ⟨e, pre_get h, r⟩
  | .rp _ _, _, ⟨e, h, r⟩ => ⟨e, pre_get h, r⟩
  | .pl _ _, _, ⟨e, o, h, r⟩ => ⟨e, o, pre_get h, r⟩
  | .ln _ _ _ _, _, h => h
  | .g _, _, h => h
  | .z _, _, h => h
theorem vrels_mono (μ : Nu) : ∀ (l : List AV) (cs : List Value), vrels σ ν l cs → vrels σ (ν ++ μ) l cs
  | [], _, h => h
  | x :: r, _, ⟨c, cs', h1, h2, e⟩ => ⟨c, cs', vrel_mono μ x c h1, vrels_mono μ r cs' h2, e⟩
end

theorem byteV_inj : ∀ {a b : List UInt8}, a.map byteV = b.map byteV → a = b
  | [], [], _ => rfl
  | [], _ :: _, h => by simp at h
  | _ :: _, [], h => by simp at h
  | x :: a, y :: b, h => by
    simp only [List.map_cons, List.cons.injEq] at h
    obtain ⟨h1, h2⟩ := h
    have : x = y := by
      simp only [byteV, Value.int.injEq, true_and] at h1
      exact UInt8.toNat_inj.1 (Int.ofNat.inj h1)
    rw [this, byteV_inj h2]

mutual
theorem vrel_fun : ∀ (v : AV) (c c' : Value), vrel σ ν v c → vrel σ ν v c' → c = c'
  | .b _, _, _, h, h' => h.trans h'.symm
  | .i _ _, _, _, h, h' => h.trans h'.symm
  | .f _ _, _, _, h, h' => h.trans h'.symm
  | .s _, _, _, h, h' => h.trans h'.symm
  | .pn, _, _, h, h' => h.trans h'.symm
  | .p _ _, _, _, ⟨e, h, r⟩, ⟨e', h', r'⟩ => by rw [h] at h'; cases h'; rw [r, r']
  | .sn, _, _, h, h' => h.trans h'.symm
  | .sl _ _ _ _, _, _, ⟨e, h, r⟩, ⟨e', h', r'⟩ => by rw [h] at h'; cases h'; rw [r, r']
  | .so _ _ _ _, _, _, ⟨e, h, _, r⟩, ⟨e', h', _, r'⟩ => by rw [h] at h'; cases h'; rw [r, r']
  | .se _ _, _, _, ⟨e, h, r⟩, ⟨e', h', r'⟩ => by rw [h] at h'; cases h'; rw [r, r']
  | .mn, _, _, h, h' => h.trans h'.symm
  | .m _, _, _, ⟨e, h, r⟩, ⟨e', h', r'⟩ => by rw [h] at h'; cases h'; rw [r, r']
  | .fn _ a cp, _, _, ⟨as, cs, h1, h2, r⟩, ⟨as', cs', h1', h2', r'⟩ => by rw [r, r', vrels_fun a as as' h1 h1', vrels_fun cp cs cs' h2 h2']
  | .fnil, _, _, h, h' => h.trans h'.symm
  | .ifc _ v, _, _, ⟨v1, h, r⟩, ⟨v2, h', r'⟩ => by rw [r, r', vrel_fun v v1 v2 h h']
  | .inil, _, _, h, h' => h.trans h'.symm
  | .ag l, _, _, ⟨cs, h, r⟩, ⟨cs', h', r'⟩ => by rw [r, r', vrels_fun l cs cs' h h']
  | .tu l, _, _, ⟨cs, h, r⟩, ⟨cs', h', r'⟩ => by rw [r, r', vrels_fun l cs cs' h h']
  | .sym _, _, _, h, h' => h.1.trans h'.1.symm
  | .ve _, _, _, h, h' => Option.some.inj (h.1.symm.trans h'.1)
  | .st _, _, _, ⟨bs, h, r, _⟩, ⟨bs', h', r', _⟩ => by
    rw [h, h', byteV_inj (r.symm.trans r')]
  | .rs _ _ _ _, _, _, ⟨e, h, _, _, _, r⟩, ⟨e', h', _, _, _, r'⟩ => by rw [h] at h'; cases h'; rw [r, r']
  | .rp _ _, _, _, ⟨e, h, r⟩, ⟨e', h', r'⟩ => by rw [h] at h'; cases h'; rw [r, r']
  | .pl _ _, _, _, ⟨e, o, h, k, r⟩, ⟨e', o', h', k', r'⟩ => by rw [h] at h'; cases h'; rw [k] at k'; cases k'; rw [r, r']
  | .ln _ _ _ _, _, _, h, h' => h.trans h'.symm
  | .g _, _, _, h, _ => h.elim
  | .z _, _, _, h, _ => h.elim
theorem vrels_fun : ∀ (l : List AV) (cs cs' : List Value), vrels σ ν l cs → vrels σ ν l cs' → cs = cs'
  | [], _, _, h, h' => h.trans h'.symm
  | x :: r, _, _, ⟨c, cs, h1, h2, e⟩, ⟨c', cs', h1', h2', e'⟩ => by rw [e, e', vrel_fun x c c' h1 h1', vrels_fun r cs cs' h2 h2']
end

theorem vrels_length : ∀ {l : List AV} {cs : List Value}, vrels σ ν l cs → cs.length = l.length
  | [], _, h => by rw [show _ = [] from h]; rfl
  | _ :: _, _, ⟨_, _, _, h2, e⟩ => by rw [e]; simp [vrels_length h2]

theorem vrels_append : ∀ {l l' : List AV} {cs cs' : List Value}, vrels σ ν l cs → vrels σ ν l' cs' → vrels σ ν (l ++ l') (cs ++ cs')
  | [], _, _, _, h, h' => by rw [show _ = [] from h]; exact h'
  | _ :: _, _, _, _, ⟨c, cs, h1, h2, e⟩, h' => by rw [e]; exact ⟨c, _, h1, vrels_append h2 h', rfl⟩

theorem vrels_split : ∀ {l l' : List AV} {cs : List Value}, vrels σ ν (l ++ l') cs → ∃ a b, cs = a ++ b ∧ vrels σ ν l a ∧ vrels σ ν l' b
  | [], _, _, h => ⟨[], _, rfl, rfl, h⟩
  | _ :: _, _, _, ⟨c, cs, h1, h2, e⟩ => by
    obtain ⟨a, b, e', ha, hb⟩ := vrels_split h2
    exact ⟨c :: a, b, by rw [e, e']; rfl, ⟨c, a, h1, ha, rfl⟩, hb⟩

theorem vrels_drop : ∀ {l : List AV} {cs : List Value} (n : Nat), vrels σ ν l cs → vrels σ ν (l.drop n) (cs.drop n)
  | _, _, 0, h => h
  | [], _, n + 1, h => by rw [show _ = [] from h]; simp [vrels]
  | _ :: _, _, n + 1, ⟨_, _, _, h2, e⟩ => by rw [e]; exact vrels_drop n h2

theorem vrels_takeN : ∀ {n : Nat} {l r : List AV} {cs : List Value}, takeN n l = some r → vrels σ ν l cs → vrels σ ν r (cs.take n) ∧ n ≤ cs.length ∧ r.length = n
  | 0, _, _, _, h, _ => by simp [takeN] at h; subst h; simp [vrels]
  | n + 1, [], _, _, h, _ => by simp [takeN] at h
  | n + 1, x :: l, r, cs, h, ⟨c, cs', h1, h2, e⟩ => by
    simp only [takeN] at h
    cases h3 : takeN n l with
    | none => simp [h3] at h
    | some r' =>
      simp [h3] at h
      subst h
      obtain ⟨a, b, d⟩ := vrels_takeN h3 h2
      subst e
      exact ⟨⟨c, _, h1, a, rfl⟩, by simpa using b, by simp [d]⟩

theorem vrels_putN : ∀ {n : Nat} {xs l r : List AV} {cs cx : List Value}, putN n xs l = some r → vrels σ ν l cs → vrels σ ν xs cx →
    vrels σ ν r (cs.take n ++ cx ++ cs.drop (n + cx.length)) ∧ n + cx.length ≤ cs.length ∨ cx = [] ∧ r = l
  | _, [], l, r, cs, cx, h, _, hx => by
    rw [show cx = [] from hx]
    cases l <;> simp [putN] at h <;> first | exact .inr ⟨rfl, h.symm⟩ | exact .inr ⟨rfl, h⟩
  | 0, x :: xs, [], r, cs, cx, h, _, _ => by simp [putN] at h
  | n + 1, x :: xs, [], r, cs, cx, h, _, _ => by simp [putN] at h
  | 0, x :: xs, y :: l, r, cs, cx, h, ⟨c, cs', h1, h2, e⟩, ⟨d, cx', g1, g2, e'⟩ => by
    simp only [putN] at h
    cases h3 : putN 0 xs l with
    | none => simp [h3] at h
    | some r' =>
      simp [h3] at h
      subst h e e'
      rcases vrels_putN h3 h2 g2 with ⟨a, b⟩ | ⟨a, b⟩
      · refine .inl ⟨⟨d, _, g1, ?_, rfl⟩, ?_⟩
        · simpa [Nat.add_comm] using a
        · simp at b ⊢; omega
      · subst a b
        exact .inl ⟨⟨d, _, g1, by simpa using h2, by simp⟩, by simp⟩
  | n + 1, x :: xs, y :: l, r, cs, cx, h, ⟨c, cs', h1, h2, e⟩, hx => by
    simp only [putN] at h
    cases h3 : putN n (x :: xs) l with
    | none => simp [h3] at h
    | some r' =>
      simp [h3] at h
      subst h e
      rcases vrels_putN h3 h2 hx with ⟨a, b⟩ | ⟨a, b⟩
      · refine .inl ⟨⟨c, _, h1, a, ?_⟩, ?_⟩
        · simp [Nat.add_right_comm]
        · simp at b ⊢; omega
      · obtain ⟨_, _, _, _, e'⟩ := hx; rw [e'] at a; cases a

theorem numV_one {v : Value} (h : numV v = true) : v.oneCell' = true := by cases v <;> simp [numV] at h <;> rfl

theorem lnV_one {a : Int} {l : List Nat} {q k : Nat} : (lnV σ a l q k).oneCell' = true := by
  unfold lnV
  split <;> rfl

theorem vrel_one {v : AV} {c : Value} (h : vrel σ ν v c) (h1 : v.one = true) : c.oneCell' = true := by
  cases v
  case ln => rw [show c = _ from h]; exact lnV_one
  case ve => exact numV_one h.2
  case rs => obtain ⟨_, _, _, _, _, rfl⟩ := h; rfl
  all_goals
    simp [AV.one] at h1 <;> simp only [vrel] at h <;>
    first
      | (obtain ⟨_, rfl, _⟩ := h; rfl)
      | (obtain ⟨_, _, _, rfl⟩ := h; rfl)
      | (obtain ⟨_, _, rfl⟩ := h; rfl)
      | (subst h; rfl)
      | exact h.2
      | (obtain ⟨_, _, _, _, rfl⟩ := h; rfl)

theorem vrel_cells {v : AV} {c : Value} (h : vrel σ ν v c) : vrels σ ν v.cells c.cells.toList := by
  cases v
  case ag l => obtain ⟨cs, h1, rfl⟩ := h; exact h1
  case tu l =>
    obtain ⟨cs, h1, rfl⟩ := h
    exact ⟨_, [], ⟨cs, h1, rfl⟩, rfl, rfl⟩
  all_goals
    have h1 : c.oneCell' = true := vrel_one h rfl
    have : c.cells = #[c] := by cases c <;> simp [Value.oneCell'] at h1 <;> rfl
    rw [this]
    exact ⟨c, [], h, rfl, rfl⟩

theorem vrels_all_one : ∀ {l : List AV} {cs : List Value}, vrels σ ν l cs → l.all AV.one = true → ∀ v ∈ cs, v.oneCell' = true
  | [], _, h, _, v, hv => by rw [show _ = [] from h] at hv; cases hv
  | x :: l, _, ⟨c, cs, h1, h2, e⟩, ha, v, hv => by
    subst e
    simp only [List.all_cons, Bool.and_eq_true] at ha
    rcases List.mem_cons.1 hv with rfl | hv
    · exact vrel_one h1 ha.1
    · exact vrels_all_one h2 ha.2 v hv

theorem ofCell_rel {v : Value} {x : AV} (h : ofCell v = some x) : vrel σ ν x v := by
  unfold ofCell at h
  split at h <;> first | (simp at h; done) | (simp at h; subst h; simp [vrel])

theorem ofCells_rel : ∀ {l : List Value} {r : List AV}, ofCells l = some r → vrels σ ν r l
  | [], _, h => by simp [ofCells] at h; subst h; rfl
  | v :: l, _, h => by
    simp only [ofCells] at h
    split at h
    · rename_i x hx
      split at h
      · rename_i r hr
        simp at h
        subst h
        exact ⟨v, l, ofCell_rel hx, ofCells_rel hr, rfl⟩
      · cases h
    · cases h

theorem ofVal_rel {v : Value} {x : AV} (h : ofVal v = some x) : vrel σ ν x v := by
  unfold ofVal at h
  split at h
  · rename_i cs
    split at h
    · rename_i l hl
      simp at h
      subst h
      exact ⟨cs.toList, ofCells_rel hl, by simp⟩
    · cases h
  · exact ofCell_rel h

theorem toV_rel {x : AV} {c v : Value} (h : vrel σ ν x c) (hv : toV x = some v) : c = v := by
  cases x <;> simp [toV] at hv <;> subst hv <;> exact h

theorem toVs_rel : ∀ {l : List AV} {cs vs : List Value}, vrels σ ν l cs → toVs l = some vs → cs = vs
  | [], _, _, h, hv => by simp [toVs] at hv; subst hv; exact h
  | x :: l, _, _, ⟨c, cs, h1, h2, e⟩, hv => by
    simp only [toVs] at hv
    split at hv
    · rename_i v hx
      split at hv
      · rename_i vs hl
        simp at hv
        subst hv e
        rw [toV_rel h1 hx, toVs_rel h2 hl]
      · cases hv
    · cases hv

theorem toVal_rel {x : AV} {c v : Value} (h : vrel σ ν x c) (hv : toVal x = some v) : c = v := by
  unfold toVal at hv
  split at hv
  · obtain ⟨cs, h1, rfl⟩ := h
    split at hv
    · rename_i vs hl
      simp at hv
      subst hv
      rw [toVs_rel h1 hl]
    · cases hv
  · exact toV_rel h hv

end

theorem runPure_run {α : Type} {P : Program} : ∀ {s : Sem α} {a : α}, runPure P s = some a → ∀ w, s.run P w = .ok a w
  | .pure a, _, h, w => by simp [runPure] at h; subst h; rfl
  | .program k, _, h, w => by simp only [runPure] at h; exact runPure_run h w
  | .mark _ k, _, h, w => by simp only [runPure] at h; exact runPure_run h w
  | .load .., _, h, _ => by simp [runPure] at h
  | .store .., _, h, _ => by simp [runPure] at h
  | .new .., _, h, _ => by simp [runPure] at h
  | .shape .., _, h, _ => by simp [runPure] at h
  | .freeze .., _, h, _ => by simp [runPure] at h
  | .frozen .., _, h, _ => by simp [runPure] at h
  | .getObj .., _, h, _ => by simp [runPure] at h
  | .setObj .., _, h, _ => by simp [runPure] at h
  | .choose .., _, h, _ => by simp [runPure] at h
  | .sys .., _, h, _ => by simp [runPure] at h
  | .halt .., _, h, _ => by simp [runPure] at h

end Go.Ae
namespace Go.Ae
open Go

section
variable (σ : Sg)

def erel (ν : Nu) (e : AE) (c : MapEntry) : Prop := vrel σ ν e.key c.key ∧ vrel σ ν e.val c.val ∧ c.born = e.born

def erels (ν : Nu) : List AE → List MapEntry → Prop
  | [], cs => cs = []
  | x :: r, cs => ∃ c cs', erel σ ν x c ∧ erels ν r cs' ∧ cs = c :: cs'

def mrel (ν : Nu) : Option Nat → Option Nat → Prop
  | none, m => m = none
  | some n, m => ∃ e, ν[n]? = some e ∧ m = some e.b

def crel (ν : Nu) (e : NE) (cs : List AV) (wd : Nat) (a : Array Value) (fr : Nat × Nat) : Prop :=
  ∃ l ext, a.toList = l ++ ext ∧ vrels σ ν cs l ∧ (wd = 0 → ext = []) ∧ (wd ≠ 0 → a.size = e.k * wd) ∧ ∀ o, o < a.size → ¬ (fr.1 ≤ o ∧ o < fr.2)

def brel (ν : Nu) (e : NE) : AB → Obj → Prop
  | .c cs wd, .cells a _ fr => crel σ ν e cs wd a fr
  | .m es cl, .map a cl' => cl' = cl ∧ erels σ ν es a.toList
  | .mi m since seen st, .mapIter m' since' seen' st' => mrel ν m m' ∧ since' = since ∧ seen'.toList = seen ∧ st' = st
  | .si s pos, .stringIter s' pos' => s' = ⟨s.toArray⟩ ∧ pos' = pos
  | .r its, .cells a _ fr => ∃ ext, a.toList = ccs σ its ++ ext ∧ ioks σ its ∧ e.ws = widths σ its ∧ e.k = a.size ∧ ∀ o, o < a.size → ¬ (fr.1 ≤ o ∧ o < fr.2)
  | .sj its pos, .stringIter s' pos' => ∃ bs : List UInt8, s' = ⟨bs.toArray⟩ ∧ ccs σ its = bs.map byteV ∧ ioks σ its ∧ its.all cellI = true ∧ pos' = pos
  | _, _ => False

variable (gs : Nat)

structure hrel (ν : Nu) (h : AH) (w : World) : Prop where
  len : ν.length = h.nx
  dom : ∀ n b, h.get n = some b → ∃ e o, ν[n]? = some e ∧ w.heap[e.b]? = some o ∧ brel σ ν e b o
  inj : ∀ n m e e' b b', h.get n = some b → h.get m = some b' → ν[n]? = some e → ν[m]? = some e' → e.b = e'.b → n = m
  gl : ∀ g, g < gs → ∃ e, ν[g]? = some e ∧ e.b = g
end

/-- A block that a name with a content stands for. -/
def im (ν : Nu) (h : AH) (b : Nat) : Prop := ∃ n x e, h.get n = some x ∧ ν[n]? = some e ∧ e.b = b

/-- What a run leaves as it is: the system, what was printed; of each old block of cells its kind, its frozen part, its size. -/
structure Keeps (w w' : World) : Prop where
  os : w'.os = w.os
  output : w'.output = w.output
  cells : ∀ (i : Nat) (a : Array Value) (t : TypeId) (fr : Nat × Nat), w.heap[i]? = some (.cells a t fr) → ∃ a', w'.heap[i]? = some (.cells a' t fr) ∧ a'.size = a.size

theorem Keeps.refl (w : World) : Keeps w w := ⟨rfl, rfl, fun _ a _ _ h => ⟨a, h, rfl⟩⟩
theorem Keeps.trans {w w' w'' : World} (x : Keeps w w') (y : Keeps w' w'') : Keeps w w'' :=
  ⟨y.os.trans x.os, y.output.trans x.output, fun i a t fr h => by
    obtain ⟨a', h1, h2⟩ := x.cells i a t fr h
    obtain ⟨a'', h3, h4⟩ := y.cells i a' t fr h1
    exact ⟨a'', h3, h4.trans h2⟩⟩
theorem Keeps.of_heap {w w' : World} (e : w'.heap = w.heap) (h1 : w'.os = w.os) (h2 : w'.output = w.output) : Keeps w w' := ⟨h1, h2, fun _ a _ _ h => ⟨a, by rw [e]; exact h, rfl⟩⟩
theorem Keeps.push {w w' : World} {o : Obj} (e : w'.heap = w.heap.push o) (h1 : w'.os = w.os) (h2 : w'.output = w.output) : Keeps w w' :=
  ⟨h1, h2, fun i a t fr h => ⟨a, by
    have hlt := (Array.getElem?_eq_some_iff.1 h).1
    rw [e, Array.getElem?_push_lt hlt]
    rw [Array.getElem?_eq_getElem hlt] at h
    exact h, rfl⟩⟩
theorem Keeps.set_map {w : World} {b : Nat} {o o' : Obj} (h0 : w.heap[b]? = some o) (hm : ∀ (a : Array Value) (t : TypeId) (fr : Nat × Nat), o ≠ .cells a t fr) : Keeps w { w with heap := w.heap.setIfInBounds b o' } :=
  ⟨rfl, rfl, fun i a t fr h => ⟨a, by
    have : b ≠ i := fun e => by subst e; rw [h0] at h; cases h; exact hm _ _ _ rfl
    show (w.heap.setIfInBounds b o')[i]? = _
    rw [Array.getElem?_setIfInBounds_ne this]
    exact h, rfl⟩⟩

structure Ext (ν : Nu) (h : AH) (w : World) (ν' : Nu) (h' : AH) (w' : World) : Prop where
  pre : ∃ μ, ν' = ν ++ μ
  sz : w.heap.size ≤ w'.heap.size
  fr : ∀ b, b < w.heap.size → ¬ im ν h b → ¬ im ν' h' b ∧ w'.heap[b]? = w.heap[b]?
  kp : Keeps w w'

theorem Ext.refl (ν : Nu) (h : AH) (w : World) : Ext ν h w ν h w := ⟨⟨[], by simp⟩, Nat.le_refl _, fun _ _ h => ⟨h, rfl⟩, Keeps.refl w⟩

theorem Ext.of_heap {ν : Nu} {h : AH} {w w' : World} (e : w'.heap = w.heap) (e1 : w'.os = w.os := by rfl) (e2 : w'.output = w.output := by rfl) : Ext ν h w ν h w' :=
  ⟨⟨[], by simp⟩, by rw [e]; exact Nat.le_refl _, fun _ _ h => ⟨h, by rw [e]⟩, Keeps.of_heap e e1 e2⟩

theorem Ext.trans {ν ν' ν'' : Nu} {h h' h'' : AH} {w w' w'' : World} (a : Ext ν h w ν' h' w') (b : Ext ν' h' w' ν'' h'' w'') : Ext ν h w ν'' h'' w'' := by
  obtain ⟨μ, rfl⟩ := a.pre
  obtain ⟨μ', rfl⟩ := b.pre
  refine ⟨⟨μ ++ μ', by simp⟩, Nat.le_trans a.sz b.sz, fun x hx hi => ?_, a.kp.trans b.kp⟩
  obtain ⟨h1, h2⟩ := a.fr x hx hi
  obtain ⟨h3, h4⟩ := b.fr x (Nat.lt_of_lt_of_le hx a.sz) h1
  exact ⟨h3, h4.trans h2⟩

theorem Ext.vrel {σ : Sg} {ν ν' : Nu} {h h' : AH} {w w' : World} (x : Ext ν h w ν' h' w') {v : AV} {c : Value} (hv : vrel σ ν v c) : vrel σ ν' v c := by
  obtain ⟨μ, rfl⟩ := x.pre
  exact vrel_mono μ v c hv

section
variable {σ : Sg} {gs : Nat} {ν : Nu} {h : AH} {w w' : World}

theorem erel_mono (μ : Nu) {e : AE} {c : MapEntry} (x : erel σ ν e c) : erel σ (ν ++ μ) e c := ⟨vrel_mono μ _ _ x.1, vrel_mono μ _ _ x.2.1, x.2.2⟩

theorem erels_mono (μ : Nu) : ∀ {es : List AE} {cs : List MapEntry}, erels σ ν es cs → erels σ (ν ++ μ) es cs
  | [], _, x => x
  | _ :: _, _, ⟨c, cs, h1, h2, e⟩ => ⟨c, cs, erel_mono μ h1, erels_mono μ h2, e⟩

theorem mrel_mono (μ : Nu) {m m' : Option Nat} (x : mrel ν m m') : mrel (ν ++ μ) m m' := by
  cases m with
  | none => exact x
  | some n => obtain ⟨e, h1, h2⟩ := x; exact ⟨e, pre_get h1, h2⟩

theorem brel_mono (μ : Nu) {e : NE} {b : AB} {o : Obj} (x : brel σ ν e b o) : brel σ (ν ++ μ) e b o := by
  cases b <;> cases o <;> simp only [brel] at x ⊢
  · obtain ⟨l, ext, h1, h2, h3⟩ := x; exact ⟨l, ext, h1, vrels_mono μ _ _ h2, h3⟩
  · exact ⟨x.1, erels_mono μ x.2⟩
  · exact ⟨mrel_mono μ x.1, x.2⟩
  · exact x
  · exact x
  · exact x

theorem hrel.of_heap (x : hrel σ gs ν h w) (e : w'.heap = w.heap) : hrel σ gs ν h w' :=
  ⟨x.len, fun n b hb => by rw [e]; exact x.dom n b hb, x.inj, x.gl⟩

theorem hrel.lt (x : hrel σ gs ν h w) {b : Nat} (hi : im ν h b) : b < w.heap.size := by
  obtain ⟨n, y, e, h1, h2, rfl⟩ := hi
  obtain ⟨e', o, h3, h4, _⟩ := x.dom n y h1
  rw [h2] at h3
  cases h3
  exact (Array.getElem?_eq_some_iff.1 h4).1

theorem hrel.live_lt (x : hrel σ gs ν h w) {n : Nat} {b : AB} (hn : h.get n = some b) : n < h.nx := by
  obtain ⟨e, _, h1, _⟩ := x.dom n b hn
  rw [← x.len]
  exact (List.getElem?_eq_some_iff.1 h1).1

/-- A new block. -/
theorem hrel.alloc (x : hrel σ gs ν h w) {b : AB} {o : Obj} {e : NE} (he : e.b = w.heap.size) (hw : w'.heap = w.heap.push o) (hb : brel σ (ν ++ [e]) e b o) (hos : w'.os = w.os := by rfl) (hout : w'.output = w.output := by rfl) :
    hrel σ gs (ν ++ [e]) (h.alloc b) w' ∧ Ext ν h w (ν ++ [e]) (h.alloc b) w' := by
  have hl : (ν ++ [e])[h.nx]? = some e := by rw [← x.len]; simp
  have old : ∀ n y, h.get n = some y → h.nx ≠ n := fun n y hn e => by have := x.live_lt hn; omega
  refine ⟨⟨by simp [x.len, AH.nx_alloc], fun n y hn => ?_, fun n m e1 e2 b1 b2 hn hm h1 h2 h12 => ?_, fun g hg => ?_⟩, ⟨⟨[e], rfl⟩, by rw [hw]; simp, fun c hc hi => ⟨fun him => ?_, ?_⟩, Keeps.push hw hos hout⟩⟩
  · rw [AH.get_alloc] at hn
    split at hn
    · rename_i hq
      subst hq
      cases hn
      exact ⟨e, o, hl, by rw [hw, he]; simp, hb⟩
    · obtain ⟨e', o', h1, h2, h3⟩ := x.dom n y hn
      refine ⟨e', o', pre_get h1, ?_, brel_mono _ h3⟩
      have hlt := (Array.getElem?_eq_some_iff.1 h2).1
      rw [hw, Array.getElem?_push_lt hlt]
      rw [Array.getElem?_eq_getElem hlt] at h2
      exact h2
  · have key : ∀ n y e1, (h.alloc b).get n = some y → (ν ++ [e])[n]? = some e1 → (n = h.nx ∧ e1 = e) ∨ (h.get n = some y ∧ ν[n]? = some e1 ∧ e1.b < w.heap.size) := by
      intro n y e1 hn h1
      rw [AH.get_alloc] at hn
      split at hn
      · rename_i hq
        subst hq
        rw [hl] at h1
        cases h1
        exact .inl ⟨rfl, rfl⟩
      · obtain ⟨e', o', g1, g2, _⟩ := x.dom n y hn
        have := pre_get (μ := [e]) g1
        rw [this] at h1
        cases h1
        exact .inr ⟨hn, g1, (Array.getElem?_eq_some_iff.1 g2).1⟩
    rcases key n b1 e1 hn h1 with ⟨rfl, rfl⟩ | ⟨a1, a2, a3⟩ <;> rcases key m b2 e2 hm h2 with ⟨rfl, rfl⟩ | ⟨c1, c2, c3⟩
    · rfl
    · omega
    · omega
    · exact x.inj n m e1 e2 b1 b2 a1 c1 a2 c2 h12
  · obtain ⟨e', h1, h2⟩ := x.gl g hg
    exact ⟨e', pre_get h1, h2⟩
  · obtain ⟨n, y, e1, h1, h2, h3⟩ := him
    rw [AH.get_alloc] at h1
    split at h1
    · rename_i hq
      subst hq
      rw [hl] at h2
      cases h2
      omega
    · obtain ⟨e', o', g1, g2, _⟩ := x.dom n y h1
      have := pre_get (μ := [e]) g1
      rw [this] at h2
      cases h2
      exact hi ⟨n, y, _, h1, g1, h3⟩
  · rw [hw, Array.getElem?_push_lt hc, Array.getElem?_eq_getElem hc]

/-- A name for a value alone. -/
theorem hrel.name (x : hrel σ gs ν h w) (e : NE) : hrel σ gs (ν ++ [e]) ⟨h.nx + 1, h.t⟩ w ∧ Ext ν h w (ν ++ [e]) ⟨h.nx + 1, h.t⟩ w := by
  have key : ∀ n y e1, h.get n = some y → (ν ++ [e])[n]? = some e1 → ν[n]? = some e1 := by
    intro n y e1 hn h1
    obtain ⟨e', o', g1, _⟩ := x.dom n y hn
    have := pre_get (μ := [e]) g1
    rw [this] at h1
    cases h1
    exact g1
  refine ⟨⟨by simp [x.len], fun n y hn => ?_, fun n m e1 e2 b1 b2 hn hm h1 h2 h12 => x.inj n m e1 e2 b1 b2 hn hm (key _ _ _ hn h1) (key _ _ _ hm h2) h12, fun g hg => ?_⟩,
    ⟨⟨[e], rfl⟩, Nat.le_refl _, fun c _ hi => ⟨fun ⟨n, y, e1, h1, h2, h3⟩ => hi ⟨n, y, e1, h1, key _ _ _ h1 h2, h3⟩, rfl⟩, Keeps.refl w⟩⟩
  · obtain ⟨e', o', h1, h2, h3⟩ := x.dom n y hn
    exact ⟨e', o', pre_get h1, h2, brel_mono _ h3⟩
  · obtain ⟨e', h1, h2⟩ := x.gl g hg
    exact ⟨e', pre_get h1, h2⟩

/-- One block is another one. -/
structure Chg (w w' : World) (b : Nat) (o : Obj) : Prop where
  sz : w'.heap.size = w.heap.size
  at_ : w'.heap[b]? = some o
  off : ∀ c, c ≠ b → w'.heap[c]? = w.heap[c]?
  kp : Keeps w w'

theorem hrel.upd (x : hrel σ gs ν h w) {n : Nat} {old b : AB} {e : NE} {o : Obj} (hn : h.get n = some old) (he : ν[n]? = some e) (hc : Chg w w' e.b o) (hb : brel σ ν e b o) :
    hrel σ gs ν (h.upd n b) w' ∧ Ext ν h w ν (h.upd n b) w' := by
  have live : ∀ m y, (h.upd n b).get m = some y → ∃ y', h.get m = some y' := by
    intro m y hm
    rw [AH.get_upd] at hm
    split at hm
    · rename_i hq; subst hq; exact ⟨old, hn⟩
    · exact ⟨y, hm⟩
  refine ⟨⟨x.len, fun m y hm => ?_, fun m m' e1 e2 b1 b2 hm hm' h1 h2 h12 => ?_, x.gl⟩, ⟨⟨[], by simp⟩, by rw [hc.sz]; exact Nat.le_refl _, fun c hcl hi => ⟨fun him => ?_, ?_⟩, hc.kp⟩⟩
  · rw [AH.get_upd] at hm
    split at hm
    · rename_i hq
      subst hq
      cases hm
      exact ⟨e, o, he, hc.at_, hb⟩
    · rename_i hq
      obtain ⟨e', o', h1, h2, h3⟩ := x.dom m y hm
      refine ⟨e', o', h1, ?_, h3⟩
      rw [hc.off _ (fun e0 => hq (x.inj n m e e' old y hn hm he h1 e0.symm)), h2]
  · obtain ⟨y1, g1⟩ := live m b1 hm
    obtain ⟨y2, g2⟩ := live m' b2 hm'
    exact x.inj m m' e1 e2 y1 y2 g1 g2 h1 h2 h12
  · obtain ⟨m, y, e1, h1, h2, h3⟩ := him
    obtain ⟨y1, g1⟩ := live m y h1
    exact hi ⟨m, y1, e1, g1, h2, h3⟩
  · exact hc.off c fun e0 => hi ⟨n, old, e, hn, he, e0.symm⟩

/-- A block goes on under a new name. -/
theorem hrel.move (x : hrel σ gs ν h w) {n : Nat} {old b : AB} {e e' : NE} {o : Obj} (hn : h.get n = some old) (he : ν[n]? = some e) (hb' : e'.b = e.b) (hc : Chg w w' e.b o)
    (hb : brel σ (ν ++ [e']) e' b o) : hrel σ gs (ν ++ [e']) ((h.del n).alloc b) w' ∧ Ext ν h w (ν ++ [e']) ((h.del n).alloc b) w' := by
  have hl : (ν ++ [e'])[h.nx]? = some e' := by rw [← x.len]; simp
  have key : ∀ m y e1, ((h.del n).alloc b).get m = some y → (ν ++ [e'])[m]? = some e1 → (m = h.nx ∧ e1 = e' ∧ y = b) ∨ (m ≠ n ∧ h.get m = some y ∧ ν[m]? = some e1) := by
    intro m y e1 hm h1
    rw [AH.get_alloc] at hm
    split at hm
    · rename_i hq
      simp only [AH.nx_del] at hq
      subst hq
      rw [hl] at h1
      cases h1
      cases hm
      exact .inl ⟨rfl, rfl, rfl⟩
    · rw [AH.get_del] at hm
      split at hm
      · cases hm
      · rename_i hq
        obtain ⟨e2, o2, g1, _⟩ := x.dom m y hm
        have := pre_get (μ := [e']) g1
        rw [this] at h1
        cases h1
        exact .inr ⟨fun e => hq e.symm, hm, g1⟩
  refine ⟨⟨by simp [x.len, AH.nx_alloc, AH.nx_del], fun m y hm => ?_, fun m m' e1 e2 b1 b2 hm hm' h1 h2 h12 => ?_, fun g hg => ?_⟩, ⟨⟨[e'], rfl⟩, by rw [hc.sz]; exact Nat.le_refl _, fun c hcl hi => ⟨fun him => ?_, ?_⟩, hc.kp⟩⟩
  · have hm0 := hm
    rw [AH.get_alloc] at hm
    split at hm
    · rename_i hq
      simp only [AH.nx_del] at hq
      subst hq
      cases hm
      exact ⟨e', o, hl, by rw [hb']; exact hc.at_, hb⟩
    · rw [AH.get_del] at hm
      split at hm
      · cases hm
      · rename_i hq
        obtain ⟨e2, o2, h1, h2, h3⟩ := x.dom m y hm
        refine ⟨e2, o2, pre_get h1, ?_, brel_mono _ h3⟩
        rw [hc.off _ (fun e0 => hq (x.inj n m e e2 old y hn hm he h1 e0.symm)), h2]
  · rcases key m b1 e1 hm h1 with ⟨rfl, rfl, _⟩ | ⟨a1, a2, a3⟩ <;> rcases key m' b2 e2 hm' h2 with ⟨rfl, rfl, _⟩ | ⟨c1, c2, c3⟩
    · rfl
    · exact absurd (x.inj n m' e e2 old b2 hn c2 he c3 (hb' ▸ h12)) (fun e => c1 e.symm)
    · exact absurd (x.inj n m e e1 old b1 hn a2 he a3 (by rw [h12, hb'])) (fun e => a1 e.symm)
    · exact x.inj m m' e1 e2 b1 b2 a2 c2 a3 c3 h12
  · obtain ⟨e2, h1, h2⟩ := x.gl g hg
    exact ⟨e2, pre_get h1, h2⟩
  · obtain ⟨m, y, e1, h1, h2, h3⟩ := him
    rcases key m y e1 h1 h2 with ⟨rfl, rfl, _⟩ | ⟨a1, a2, a3⟩
    · exact hi ⟨n, old, e, hn, he, by rw [← hb', h3]⟩
    · exact hi ⟨m, y, e1, a2, a3, h3⟩
  · exact hc.off c fun e0 => hi ⟨n, old, e, hn, he, e0.symm⟩

/-! ### Cells -/

theorem hrel.cells (x : hrel σ gs ν h w) {n wd : Nat} {cs : List AV} {e : NE} (hn : h.get n = some (.c cs wd)) (he : ν[n]? = some e) :
    ∃ a t fr, w.heap[e.b]? = some (.cells a t fr) ∧ crel σ ν e cs wd a fr := by
  obtain ⟨e', o, h1, h2, h3⟩ := x.dom n _ hn
  rw [he] at h1
  cases h1
  cases o <;> simp only [brel] at h3
  exact ⟨_, _, _, h2, h3⟩

theorem loadC_rel (x : hrel σ gs ν h w) {n o k : Nat} {l : List AV} {e : NE} (hl : loadC h n o k = some l) (he : ν[n]? = some e) :
    ∃ cs, vrels σ ν l cs ∧ cs.length = k ∧ w.rangeAt e.b o cs := by
  unfold loadC at hl
  split at hl
  · rename_i cs wd hn
    obtain ⟨a, t, fr, hw, l0, ext, h1, h2, _⟩ := x.cells hn he
    obtain ⟨g1, g2, g3⟩ := vrels_takeN hl (vrels_drop o h2)
    refine ⟨(l0.drop o).take k, g1, by simp at g2 ⊢; omega, fun j v hj => ?_⟩
    have hj' : j < k := by
      have := (List.getElem?_eq_some_iff.1 hj).1
      simp at this; omega
    have h4 : l0[o + j]? = some v := by
      rw [List.getElem?_take_of_lt hj', List.getElem?_drop] at hj
      exact hj
    have h5 : a[o + j]? = some v := by
      rw [← Array.getElem?_toList, h1, List.getElem?_append_left (List.getElem?_eq_some_iff.1 h4).1]
      exact h4
    simp [World.cell?, hw, h5]
  · cases hl

theorem Keeps.setCell (w : World) (b o : Nat) (v : Value) : Keeps w (w.setCell ⟨b, o, none⟩ v) := ⟨rfl, rfl, fun i a t fr h => by
  by_cases e : b = i
  · subst e
    exact ⟨a.setIfInBounds o v, by simp [World.setCell, Array.getElem?_modify, h], by simp⟩
  · exact ⟨a, by simp [World.setCell, Array.getElem?_modify, e, h], rfl⟩⟩

theorem Chg_setCells : ∀ (vs : List Value) (o : Nat) (w : World) (b : Nat) (a : Array Value) (t : TypeId) (fr : Nat × Nat), w.heap[b]? = some (.cells a t fr) → o + vs.length ≤ a.size →
    ∃ a', Chg w (w.setCells b o vs) b (.cells a' t fr) ∧ a'.toList = a.toList.take o ++ vs ++ a.toList.drop (o + vs.length)
  | [], o, w, b, a, t, fr, hw, _ => ⟨a, ⟨rfl, hw, fun _ _ => rfl, Keeps.refl w⟩, by simp⟩
  | v :: vs, o, w, b, a, t, fr, hw, hl => by
    have hlt : b < w.heap.size := (Array.getElem?_eq_some_iff.1 hw).1
    have h1 : (w.setCell ⟨b, o, none⟩ v).heap[b]? = some (.cells (a.setIfInBounds o v) t fr) := by
      simp [World.setCell, Array.getElem?_modify, hw]
    obtain ⟨a', hc, ha⟩ := Chg_setCells vs (o + 1) (w.setCell ⟨b, o, none⟩ v) b (a.setIfInBounds o v) t fr h1 (by simp at hl ⊢; omega)
    refine ⟨a', ⟨hc.sz.trans (by simp [World.setCell]), hc.at_, fun c hcb => (hc.off c hcb).trans ?_, (Keeps.setCell w b o v).trans hc.kp⟩, ?_⟩
    · simp [World.setCell, Array.getElem?_modify, Ne.symm hcb]
    · rw [ha]
      have ho : o < a.toList.length := by simp at hl ⊢; omega
      simp only [Array.toList_setIfInBounds, List.length_cons]
      rw [List.take_set, List.drop_set_of_lt (by omega)]
      have e1 : (a.toList.take (o + 1)).set o v = a.toList.take o ++ [v] := by
        apply List.ext_getElem?
        intro j
        rw [List.getElem?_set]
        by_cases hj : o = j
        · subst hj
          have hlen : (a.toList.take o).length = o := by simp; simp at ho; omega
          rw [List.getElem?_append_right (by omega), hlen]
          simp at ho
          simp
          omega
        · simp only [hj, if_false]
          by_cases hjo : j < o
          · rw [List.getElem?_append_left (by simp; simp at ho; omega)]
            rw [List.getElem?_take_of_lt (by omega), List.getElem?_take_of_lt hjo]
          · rw [List.getElem?_take_eq_none (by omega)]
            rw [List.getElem?_append_right (by simp; omega)]
            simp
            omega
      rw [e1]
      simp [Nat.add_assoc, Nat.add_comm 1]

theorem storeC_rel (x : hrel σ gs ν h w) {n o : Nat} {xs : List AV} {h' : AH} {e : NE} {cx : List Value} (hs : storeC h n o xs = some h') (he : ν[n]? = some e) (hx : vrels σ ν xs cx) :
    w.there e.b o cx.length ∧ (∀ v ∈ cx, v.oneCell' = true) ∧ hrel σ gs ν h' (w.setCells e.b o cx) ∧ Ext ν h w ν h' (w.setCells e.b o cx) := by
  unfold storeC at hs
  split at hs
  · rename_i cs wd hn
    cases hall : xs.all AV.one with
    | false => rw [hall] at hs; simp at hs
    | true =>
      rw [hall] at hs
      simp only [cond_true] at hs
      split at hs
      · rename_i l hl
        simp at hs
        subst hs
        obtain ⟨a, t, fr, hw, l0, ext, h1, h2, h3, h4, h5⟩ := x.cells hn he
        have hsz : a.size = l0.length + ext.length := by rw [← Array.length_toList, h1]; simp
        rcases vrels_putN hl h2 hx with ⟨g1, g2⟩ | ⟨g1, g2⟩
        · refine ⟨fun j hj => ⟨?_, ?_⟩, vrels_all_one hx hall, ?_⟩
          · have : o + j < a.size := by omega
            simp [World.cell?, hw, this]
          · have := h5 (o + j) (by omega)
            simp only [World.frozen?, hw]
            simpa using this
          · obtain ⟨a', hc, ha⟩ := Chg_setCells cx o w e.b a t fr hw (by omega)
            refine x.upd hn he hc ⟨l0.take o ++ cx ++ l0.drop (o + cx.length), ext, ?_, g1, h3, fun hwd => ?_, fun j hj => ?_⟩
            · rw [ha, h1, List.take_append_of_le_length (by omega), List.drop_append_of_le_length (by omega)]
              simp
            · have : a'.size = a.size := by
                rw [← Array.length_toList, ha]
                simp
                omega
              rw [this]; exact h4 hwd
            · have : a'.size = a.size := by
                rw [← Array.length_toList, ha]
                simp
                omega
              exact h5 j (by omega)
        · subst g1
          subst g2
          refine ⟨fun j hj => absurd hj (by simp), by simp, ?_⟩
          exact x.upd hn he ⟨rfl, hw, fun _ _ => rfl, Keeps.refl w⟩ ⟨l0, ext, h1, h2, h3, h4, h5⟩
      · cases hs
  · cases hs
end
end Go.Ae
namespace Go.Ae
open Go

section
variable {P : Program} {σ : Sg} {ν : Nu}

theorem szOf_info {t : TypeId} {k : Nat} (h : szOf P t = some k) : ∃ i, P.info? t = some i ∧ i.size = k := by
  unfold szOf at h
  split at h
  · rename_i i hi; simp at h; exact ⟨i, hi, h⟩
  · cases h

theorem bytesOf_info {t : TypeId} {k : Nat} (h : bytesOf P t = some k) : ∃ i, P.info? t = some i ∧ i.bytes = k := by
  unfold bytesOf at h
  split at h
  · rename_i i hi; simp at h; exact ⟨i, hi, h⟩
  · cases h

theorem zeroOf_info {t : TypeId} {z : AV} (h : zeroOf P t = some z) : ∃ i v, P.info? t = some i ∧ i.zero = some v ∧ ofVal v = some z := by
  unfold zeroOf at h
  split at h
  · rename_i i hi
    split at h
    · rename_i v hv; exact ⟨i, v, hi, hv, h⟩
    · cases h
  · cases h

theorem run_sizeOf {t : TypeId} {k : Nat} (h : szOf P t = some k) (w : World) : (sizeOf t).run P w = .ok k w := by
  obtain ⟨i, hi, rfl⟩ := szOf_info h
  simp [sizeOf, typeInfo, hi]

theorem run_zeroValue {t : TypeId} {z : AV} (h : zeroOf P t = some z) : ∃ v, ofVal v = some z ∧ ∀ w, (zeroValue t).run P w = .ok v w := by
  obtain ⟨i, v, hi, hv, hz⟩ := zeroOf_info h
  exact ⟨v, hz, fun w => by simp [zeroValue, typeInfo, hi, hv]⟩

theorem ofVal_not_tu {v : Value} {z : AV} (h : ofVal v = some z) : ∀ l, z ≠ .tu l := by
  intro l e
  subst e
  unfold ofVal at h
  split at h
  · split at h <;> simp at h
  · unfold ofCell at h
    split at h <;> simp at h

theorem run_isAgg {t : TypeId} {b : Bool} (h : agg? P t = some b) (w : World) : (isAgg t).run P w = .ok b w := by
  unfold agg? at h
  split at h <;> first | (simp at h; done) | skip
  all_goals
    rename_i hu
    simp at h
    subst h
    unfold isAgg
    rw [Sem.run_bind, run_underlying hu w]
  all_goals first | rfl | skip
  rename_i d h1 h2
  cases d <;> first | rfl | (exact absurd rfl (h1 _)) | (exact absurd rfl (h2 _ _)) | skip

/-- Operands that stand for what they are. -/
def Rho (σ : Sg) (ν : Nu) (ρ : Operand → Option AV) (r : Operand → Value) : Prop := ∀ x v, ρ x = some v → vrel σ ν v (r x)

variable {ρ : Operand → Option AV} {r : Operand → Value}

theorem evs_rel (hρ : Rho σ ν ρ r) : ∀ {l : List Operand} {vs : List AV}, evs ρ l = some vs → vrels σ ν vs (l.map r)
  | [], _, h => by simp [evs] at h; subst h; rfl
  | x :: l, _, h => by
    simp only [evs] at h
    split at h
    · rename_i v hv
      split at h
      · rename_i vs hl
        simp at h
        subst h
        exact ⟨r x, l.map r, hρ x v hv, evs_rel hρ hl, rfl⟩
      · cases h
    · cases h

/-- Parts. -/
def prels (σ : Sg) (ν : Nu) : List (Nat × AV) → List (Nat × Value) → Prop
  | [], cs => cs = []
  | x :: r, cs => ∃ c cs', vrel σ ν x.2 c ∧ prels σ ν r cs' ∧ cs = (x.1, c) :: cs'

theorem evp_rel (hρ : Rho σ ν ρ r) : ∀ {l : List (Nat × Operand)} {vs : List (Nat × AV)}, evp ρ l = some vs → prels σ ν vs (l.map fun x => (x.1, r x.2))
  | [], _, h => by simp [evp] at h; subst h; rfl
  | (i, x) :: l, _, h => by
    simp only [evp] at h
    split at h
    · rename_i v hv
      split at h
      · rename_i vs hl
        simp at h
        subst h
        exact ⟨r x, _, hρ x v hv, evp_rel hρ hl, rfl⟩
      · cases h
    · cases h

theorem pureV_run {s : Sem Value} {v : AV} (h : pureV P s = some v) : ∃ c, vrel σ ν v c ∧ ∀ w, s.run P w = .ok c w := by
  unfold pureV at h
  split at h
  · rename_i c hc
    exact ⟨c, ofVal_rel h, runPure_run hc⟩
  · cases h

/-! ### Two operands -/

theorem eqGuard_plain {op : BinOp} {t : TypeId} {x y : Operand} {a b : Value} (h1 : a ≠ .nilIface ∨ b ≠ .nilIface) (h2 : (∀ l, a ≠ .agg l) ∨ (∀ l, b ≠ .agg l)) :
    eqGuard op t x y a b = pure () := by
  cases op <;> simp only [eqGuard, Bool.not_false, Bool.not_true, if_true, Bool.false_eq_true, if_false] <;> (try rfl)
  all_goals
    split
    · simp at h1
    · simp at h2
    · rfl

theorem eqGuard_const {op : BinOp} {t : TypeId} {x y : Operand} {a b : Value} (h1 : a ≠ .nilIface ∨ b ≠ .nilIface) :
    eqGuard op t x y a b = eqGuard op t (.const a) (.const b) a b := by
  cases op <;> simp only [eqGuard, Bool.not_false, Bool.not_true, if_true, Bool.false_eq_true, if_false] <;> (try rfl)
  all_goals
    split
    · simp at h1
    · rfl
    · rfl

theorem toList_mk (l : List UInt8) : (ByteArray.mk l.toArray).toList = l := by
  rw [Lib.toList_data]

def BinOk (P : Program) (σ : Sg) (ν : Nu) (op : BinOp) (t : TypeId) (x y : Operand) (a b : Value) (v : AV) (w : World) : Prop :=
  ∃ c, vrel σ ν v c ∧ (do eqGuard op t x y a b; Go.binOp op t a b).run P w = .ok c w

theorem strOp_rel {op : BinOp} {a b : List UInt8} {v : AV} (h : strOp op a b = some v) :
    ∃ c, vrel σ ν v c ∧ ∀ w, (Op.stringOp op ⟨a.toArray⟩ ⟨b.toArray⟩).run P w = .ok c w := by
  have hs : ∀ l : List UInt8, (ByteArray.mk l.toArray).size = l.length := fun l => by simp [ByteArray.size]
  cases op <;> simp [strOp] at h
  case add =>
    cases hb : Nat.ble (a.length + b.length) 9223372036854775807 with
    | false => rw [hb] at h; cases h
    | true =>
      rw [hb] at h
      simp at h
      subst h
      have hle := Nat.le_of_ble_eq_true hb
      refine ⟨_, rfl, fun w => ?_⟩
      have : ¬ (9223372036854775807 < (a.length : Int) + (b.length : Int)) := by omega
      simp [Op.stringOp, hs, IntKind.max, IntKind.signed, IntKind.bits, this]
      apply ByteArray.ext
      simp
  all_goals
    subst h
    exact ⟨_, rfl, fun w => by simp [Op.stringOp]⟩


theorem eqRes_rel {op : BinOp} {d : Bool} {v : AV} (h : eqRes op d = some v) : (op = .eql ∧ v = .b d) ∨ (op = .neq ∧ v = .b !d) := by
  unfold eqRes at h
  split at h
  · simp at h; exact .inl ⟨rfl, h.symm⟩
  · simp at h; exact .inr ⟨rfl, h.symm⟩
  · cases h

/-- The nil-able values, by kind. -/
theorem kindNil_rel {x : AV} {c : Value} (h : vrel σ ν x c) :
    (kindNil x = 0) ∨ (kindNil x = 1 ∧ ∃ a, c = .pointer a ∧ isNil x = some a.isNone) ∨ (kindNil x = 2 ∧ ∃ a n k, c = .slice a n k ∧ isNil x = some a.isNone) ∨
      (kindNil x = 3 ∧ ∃ a, c = .map a ∧ isNil x = some a.isNone) ∨ (kindNil x = 4 ∧ ((c = .nilFunc ∧ isNil x = some true) ∨ ∃ f a b, c = .func f a b ∧ isNil x = some false)) := by
  cases x <;> simp only [vrel] at h
  case pn => subst h; exact .inr (.inl ⟨rfl, _, rfl, rfl⟩)
  case p n o => obtain ⟨e, _, rfl⟩ := h; exact .inr (.inl ⟨rfl, _, rfl, rfl⟩)
  case sn => subst h; exact .inr (.inr (.inl ⟨rfl, _, _, _, rfl, rfl⟩))
  case sl => obtain ⟨e, _, rfl⟩ := h; exact .inr (.inr (.inl ⟨rfl, _, _, _, rfl, rfl⟩))
  case so => obtain ⟨e, _, _, rfl⟩ := h; exact .inr (.inr (.inl ⟨rfl, _, _, _, rfl, rfl⟩))
  case se => obtain ⟨e, _, rfl⟩ := h; exact .inr (.inr (.inl ⟨rfl, _, _, _, rfl, rfl⟩))
  case rs => obtain ⟨e, _, _, _, _, rfl⟩ := h; exact .inr (.inr (.inl ⟨rfl, _, _, _, rfl, rfl⟩))
  case mn => subst h; exact .inr (.inr (.inr (.inl ⟨rfl, _, rfl, rfl⟩)))
  case m => obtain ⟨e, _, rfl⟩ := h; exact .inr (.inr (.inr (.inl ⟨rfl, _, rfl, rfl⟩)))
  case fn => obtain ⟨_, _, _, _, rfl⟩ := h; exact .inr (.inr (.inr (.inr ⟨rfl, .inr ⟨_, _, _, rfl, rfl⟩⟩)))
  case fnil => subst h; exact .inr (.inr (.inr (.inr ⟨rfl, .inl ⟨rfl, rfl⟩⟩)))
  all_goals exact .inl rfl

theorem binOp_eq {t : TypeId} {a b : Value} {d : Bool} {op : BinOp} {v : AV} (hv : eqRes op d = some v) (h1 : ∀ k n, a ≠ .int k n) (h2 : ∀ k n, a ≠ .float k n)
    (h3 : ∀ k n m, a ≠ .complex k n m) (h4 : ∀ s, a ≠ .string s) (w : World) (he : (Op.equal t a b).run P w = .ok d w) :
    ∃ c, vrel σ ν v c ∧ (Go.binOp op t a b).run P w = .ok c w := by
  rcases eqRes_rel hv with ⟨rfl, rfl⟩ | ⟨rfl, rfl⟩
  · refine ⟨.bool d, rfl, ?_⟩
    have : Go.binOp .eql t a b = (do pure (.bool (← Op.equal t a b)) : Sem Value) := by
      unfold Go.binOp
      split <;> first | rfl | (simp_all; done) | (exfalso; simp_all)
    rw [this]
    simp [he]
  · refine ⟨.bool !d, rfl, ?_⟩
    have : Go.binOp .neq t a b = (do pure (.bool (!(← Op.equal t a b))) : Sem Value) := by
      unfold Go.binOp
      split <;> first | rfl | (simp_all; done) | (exfalso; simp_all)
    rw [this]
    simp [he]


theorem run_underlying_pure {t : TypeId} {d : TypeDesc} (h : P.underlying t = some d) (w : World) : (underlying t).run P w = .ok d w := run_underlying h w

theorem cmpNil_rel {op : BinOp} {t : TypeId} {x y : AV} {a b : Value} {v : AV} (hx : vrel σ ν x a) (hy : vrel σ ν y b) (h : cmpNil P op t x y = some v) (X Y : Operand) :
    ∃ c, vrel σ ν v c ∧ ∀ w, (do eqGuard op t X Y a b; Go.binOp op t a b).run P w = .ok c w := by
  unfold cmpNil at h
  cases hk : Nat.beq (kindNil x) (kindNil y) with
  | false => rw [hk] at h; simp at h
  | true =>
    cases hd : Nat.beq (descNil (P.underlying t)) (kindNil x) with
    | false => rw [hk, hd] at h; simp at h
    | true =>
      rw [hk, hd] at h
      simp only [Bool.and_self, cond_true] at h
      replace hk := Nat.eq_of_beq_eq_true hk
      replace hd := Nat.eq_of_beq_eq_true hd
      have desc : ∀ k, descNil (P.underlying t) = k → k ≠ 0 → ∃ d, P.underlying t = some d ∧
          ((k = 1 ∧ ∃ e, d = .pointer e) ∨ (k = 2 ∧ ∃ e, d = .slice e) ∨ (k = 3 ∧ ∃ e f, d = .map e f) ∨ (k = 4 ∧ ∃ p q r, d = .func p q r)) := by
        intro k hk h0
        unfold descNil at hk
        split at hk <;> first | exact absurd hk.symm h0 | (rename_i hu; subst hk; refine ⟨_, hu, ?_⟩; simp)
      generalize hz : bothNil (isNil x) (isNil y) = z at h
      cases z with
      | none => simp [eqResO] at h
      | some d =>
        simp only [eqResO] at h
        have fin : ∀ {a b : Value}, (∀ k n, a ≠ .int k n) → (∀ k n, a ≠ .float k n) → (∀ k n m, a ≠ .complex k n m) → (∀ s, a ≠ .string s) → (a ≠ .nilIface) → (∀ l, a ≠ .agg l) →
            (∀ m w, (Op.equalIn (m + 1) t a b).run P w = .ok d w) → ∃ c, vrel σ ν v c ∧ ∀ w, (do eqGuard op t X Y a b; Go.binOp op t a b).run P w = .ok c w := by
          intro a b h1 h2 h3 h4 h5 h6 he
          obtain ⟨c, hc, _⟩ := binOp_eq (σ := σ) (ν := ν) (P := P) (b := b) h h1 h2 h3 h4 default (he 9999 default)
          refine ⟨c, hc, fun w => ?_⟩
          obtain ⟨c', hc', hr⟩ := binOp_eq (σ := σ) (ν := ν) (P := P) (b := b) h h1 h2 h3 h4 w (he 9999 w)
          rw [vrel_fun v c c' hc hc', eqGuard_plain (.inl h5) (.inl h6)]
          simp [hr]
        rcases kindNil_rel hx with h0 | ⟨h1, a', rfl, i1⟩ | ⟨h1, a', n, k, rfl, i1⟩ | ⟨h1, a', rfl, i1⟩ | ⟨h1, h1'⟩
        · exfalso
          cases x <;> simp [kindNil] at h0 <;> simp [isNil, bothNil] at hz
        · obtain ⟨d', hu, hdd⟩ := desc _ (hd.trans h1) (by decide)
          rcases hdd with ⟨_, e, rfl⟩ | ⟨g, _⟩ | ⟨g, _⟩ | ⟨g, _⟩ <;> first | (cases g; done) | skip
          rcases kindNil_rel hy with g | ⟨_, b', rfl, i2⟩ | ⟨g, _⟩ | ⟨g, _⟩ | ⟨g, _⟩ <;> first | (rw [← hk, h1] at g; cases g; done) | skip
          refine fin (by simp) (by simp) (by simp) (by simp) (by simp) (by simp) fun m w => ?_
          rw [i1, i2] at hz
          cases a' <;> cases b' <;> simp [bothNil] at hz <;> subst hz <;> simp [Op.equalIn, run_underlying hu]
        · obtain ⟨d', hu, hdd⟩ := desc _ (hd.trans h1) (by decide)
          rcases hdd with ⟨g, _⟩ | ⟨_, e, rfl⟩ | ⟨g, _⟩ | ⟨g, _⟩ <;> first | (cases g; done) | skip
          rcases kindNil_rel hy with g | ⟨g, _⟩ | ⟨_, b', n', k', rfl, i2⟩ | ⟨g, _⟩ | ⟨g, _⟩ <;> first | (rw [← hk, h1] at g; cases g; done) | skip
          refine fin (by simp) (by simp) (by simp) (by simp) (by simp) (by simp) fun m w => ?_
          rw [i1, i2] at hz
          cases a' <;> cases b' <;> simp [bothNil] at hz <;> subst hz <;> simp [Op.equalIn, run_underlying hu]
        · obtain ⟨d', hu, hdd⟩ := desc _ (hd.trans h1) (by decide)
          rcases hdd with ⟨g, _⟩ | ⟨g, _⟩ | ⟨_, e, f, rfl⟩ | ⟨g, _⟩ <;> first | (cases g; done) | skip
          rcases kindNil_rel hy with g | ⟨g, _⟩ | ⟨g, _⟩ | ⟨_, b', rfl, i2⟩ | ⟨g, _⟩ <;> first | (rw [← hk, h1] at g; cases g; done) | skip
          refine fin (by simp) (by simp) (by simp) (by simp) (by simp) (by simp) fun m w => ?_
          rw [i1, i2] at hz
          cases a' <;> cases b' <;> simp [bothNil] at hz <;> subst hz <;> simp [Op.equalIn, run_underlying hu]
        · obtain ⟨d', hu, hdd⟩ := desc _ (hd.trans h1) (by decide)
          rcases hdd with ⟨g, _⟩ | ⟨g, _⟩ | ⟨g, _⟩ | ⟨_, p, q, rr, rfl⟩ <;> first | (cases g; done) | skip
          rcases kindNil_rel hy with g | ⟨g, _⟩ | ⟨g, _⟩ | ⟨g, _⟩ | ⟨_, h2'⟩ <;> first | (rw [← hk, h1] at g; cases g; done) | skip
          rcases h1' with ⟨rfl, i1⟩ | ⟨f1, a1, b1, rfl, i1⟩ <;> rcases h2' with ⟨rfl, i2⟩ | ⟨f2, a2, b2, rfl, i2⟩ <;> rw [i1, i2] at hz <;> simp [bothNil] at hz <;> subst hz
          all_goals
            refine fin (by simp) (by simp) (by simp) (by simp) (by simp) (by simp) fun m w => ?_
            simp [Op.equalIn, run_underlying hu]

end
end Go.Ae
namespace Go.Ae
open Go

section
variable {P : Program} {σ : Sg} {ν : Nu}

theorem ptrTo_rel {t : TypeId} (h : ptrTo P t = true) : ∃ e k, P.underlying t = some (.pointer e) ∧ szOf P e = some (k + 1) := by
  unfold ptrTo at h
  split at h
  · rename_i e hu
    split at h
    · rename_i k hk; exact ⟨e, k, hu, hk⟩
    · cases h
  · cases h

theorem isIf_rel {x : AV} {v : Value} (h : toVal x = some v) (hx : isIf x = false) : v ≠ .nilIface := by
  intro e
  subst e
  cases x <;> simp [toVal, toV, isIf] at h hx
  split at h <;> simp at h

theorem bin_rel {op : BinOp} {t : TypeId} {x y : AV} {a b : Value} {v : AV} (hx : vrel σ ν x a) (hy : vrel σ ν y b) (h : bin P op t x y = some v) (X Y : Operand) :
    ∃ c, vrel σ ν v c ∧ ∀ w, (do eqGuard op t X Y a b; Go.binOp op t a b).run P w = .ok c w := by
  unfold bin at h
  split at h
  · rename_i a' b'
    rw [show a = _ from hx, show b = _ from hy]
    obtain ⟨c, hc, hr⟩ := strOp_rel (P := P) (σ := σ) (ν := ν) h
    refine ⟨c, hc, fun w => ?_⟩
    rw [eqGuard_plain (.inl (by simp)) (.inl (by simp))]
    have : Go.binOp op t (.string ⟨a'.toArray⟩) (.string ⟨b'.toArray⟩) = Op.stringOp op ⟨a'.toArray⟩ ⟨b'.toArray⟩ := by cases op <;> rfl
    rw [this]
    simp [hr w]
  · rename_i k a' k' b'
    rw [show a = _ from hx, show b = _ from hy]
    obtain ⟨c, hc, hr⟩ := pureV_run (σ := σ) (ν := ν) h
    refine ⟨c, hc, fun w => ?_⟩
    rw [eqGuard_plain (.inl (by simp)) (.inl (by simp))]
    simp [hr w]
  · rename_i n o n' o'
    unfold binP at h
    cases hp : ptrTo P t with
    | false => rw [hp] at h; simp at h
    | true =>
      cases hn : Nat.beq n n' with
      | false => rw [hp, hn] at h; simp at h
      | true =>
        rw [hp, hn] at h
        simp only [Bool.and_self, cond_true] at h
        obtain ⟨el, k, hu, hk⟩ := ptrTo_rel hp
        have := Nat.eq_of_beq_eq_true hn
        subst this
        obtain ⟨e, he, rfl⟩ := hx
        obtain ⟨e', he', rfl⟩ := hy
        rw [he] at he'
        cases he'
        have heq : ∀ m w, (Op.equalIn (m + 1) t (.pointer (some ⟨e.b, o, none⟩)) (.pointer (some ⟨e.b, o', none⟩))).run P w = .ok (Nat.beq o o') w := by
          intro m w
          have hs := run_sizeOf hk w
          simp [Op.equalIn, run_underlying hu, hs, sameAddr]
          cases hb : Nat.beq o o' with
          | true => simp [Nat.eq_of_beq_eq_true hb]
          | false => simp [Nat.ne_of_beq_eq_false hb]
        obtain ⟨c, hc, _⟩ := binOp_eq (σ := σ) (ν := ν) (P := P) h (by simp) (by simp) (by simp) (by simp) default (heq 9999 default)
        refine ⟨c, hc, fun w => ?_⟩
        obtain ⟨c', hc', hr⟩ := binOp_eq (σ := σ) (ν := ν) (P := P) h (by simp) (by simp) (by simp) (by simp) w (heq 9999 w)
        rw [vrel_fun v c c' hc hc', eqGuard_plain (.inl (by simp)) (.inl (by simp))]
        simp [hr]
  · cases hi : isIf x || isIf y with
    | true => rw [hi] at h; simp at h
    | false =>
      rw [hi] at h
      simp only [cond_false] at h
      simp only [Bool.or_eq_false_iff] at hi
      unfold binV at h
      split at h
      · rename_i a' b' ha hb
        have h1 := toVal_rel hx ha
        have h2 := toVal_rel hy hb
        subst h1 h2
        have hne : a ≠ .nilIface := isIf_rel ha hi.1
        rw [eqGuard_const (.inl hne)]
        exact pureV_run h
      · cases h

theorem binA_rel {op : BinOp} {t : TypeId} {x y : AV} {a b : Value} {v : AV} (hx : vrel σ ν x a) (hy : vrel σ ν y b) (h : binA P op t x y = some v) (X Y : Operand) :
    ∃ c, vrel σ ν v c ∧ ∀ w, (do eqGuard op t X Y a b; Go.binOp op t a b).run P w = .ok c w := by
  unfold binA at h
  cases hk : Nat.beq (kindNil x) 0 with
  | true => rw [hk] at h; exact bin_rel hx hy h X Y
  | false =>
    rw [hk] at h
    simp only [cond_false, binO] at h
    split at h
    · rename_i r hr
      cases h
      exact cmpNil_rel hx hy hr X Y
    · exact bin_rel hx hy h X Y

/-! ### Structs -/

theorem fieldOf_rel {t : TypeId} {k : Nat} {off n : Nat} {ft : TypeId} (h : fieldOf P t k = some (off, n, ft)) :
    ∃ fs f, P.underlying t = some (.struct fs) ∧ fs[k]? = some f ∧ szOf P f.type = some n ∧ f.offset = off ∧ f.type = ft := by
  unfold fieldOf at h
  split at h
  · rename_i fs hu
    split at h
    · rename_i f hf
      split at h
      · rename_i n' hn
        simp at h
        obtain ⟨rfl, rfl, rfl⟩ := h
        exact ⟨fs, f, hu, hf, hn, rfl, rfl⟩
      · cases h
    · cases h
  · cases h

theorem part_rel {t : TypeId} {cs : List AV} {off : Nat} {v : AV} {vs : List Value} (h : part P t cs off = some v) (hc : vrels σ ν cs vs) :
    ∃ c, vrel σ ν v c ∧ ∀ w, (Go.part t vs.toArray off).run P w = .ok c w := by
  unfold part at h
  split at h
  · rename_i ha
    split at h
    · rename_i n hn
      split at h
      · rename_i l hl
        simp at h
        subst h
        obtain ⟨g1, g2, g3⟩ := vrels_takeN hl (vrels_drop off hc)
        refine ⟨_, ⟨_, g1, rfl⟩, fun w => ?_⟩
        have h1 := run_isAgg ha w
        have h2 := run_sizeOf hn w
        simp [Go.part, h1, h2]
      · cases h
    · cases h
  · rename_i ha
    split at h
    · rename_i x r hd
      simp at h
      subst h
      have h3 := vrels_drop off hc
      rw [hd] at h3
      obtain ⟨c, cs', h4, _, h5⟩ := h3
      refine ⟨c, h4, fun w => ?_⟩
      have h1 := run_isAgg ha w
      have h6 : vs[off]? = some c := by
        have := congrArg (·[0]?) h5
        simpa using this
      simp [Go.part, h1, h6]
    · cases h
  · cases h

theorem foldl_zipIdx : ∀ (l : List Value) (k off : Nat) (a : Array Value), off + k + l.length ≤ a.size →
    ((l.zipIdx k).foldl (fun cs (x : Value × Nat) => cs.setIfInBounds (off + x.2) x.1) a).toList = a.toList.take (off + k) ++ l ++ a.toList.drop (off + k + l.length)
  | [], k, off, a, _ => by simp
  | v :: l, k, off, a, h => by
    simp only [List.zipIdx_cons, List.foldl_cons]
    rw [foldl_zipIdx l (k + 1) off _ (by simp at h ⊢; omega)]
    have ho : off + k < a.toList.length := by simp at h ⊢; omega
    simp only [Array.toList_setIfInBounds, List.length_cons]
    rw [List.take_set, List.drop_set_of_lt (by omega)]
    have e1 : (a.toList.take (off + (k + 1))).set (off + k) v = a.toList.take (off + k) ++ [v] := by
      rw [show off + (k + 1) = off + k + 1 by omega, List.take_succ_eq_append_getElem ho, List.set_append_right _ _ (by simp; simp at ho; omega)]
      have : (a.toList.take (off + k)).length = off + k := by simp; simp at ho; omega
      rw [this]
      simp
    rw [e1]
    simp only [List.append_assoc, List.singleton_append]
    congr 3
    omega

/-- One part put into the cells. -/
theorem fill_one {cs l : List AV} {v : AV} {off : Nat} {a : Array Value} {c : Value} (hp : putN off v.cells cs = some l) (hc : vrels σ ν cs a.toList) (hv : vrel σ ν v c)
    (hz : 0 < v.cells.length ∨ off + v.cells.length ≤ cs.length) : off + c.cells.size ≤ a.size ∧ c.cells.size = v.cells.length ∧
      vrels σ ν l (c.cells.zipIdx.foldl (fun cs (x : Value × Nat) => cs.setIfInBounds (off + x.2) x.1) a).toList := by
  have hx := vrel_cells hv
  have hlen : c.cells.size = v.cells.length := by have := vrels_length hx; simpa using this
  have hcl : a.size = cs.length := by have := vrels_length hc; simpa using this
  have hfold : off + c.cells.size ≤ a.size → (c.cells.zipIdx.foldl (fun cs (x : Value × Nat) => cs.setIfInBounds (off + x.2) x.1) a).toList = a.toList.take off ++ c.cells.toList ++ a.toList.drop (off + c.cells.size) := by
    intro hle
    rw [← Array.foldl_toList, Array.toList_zipIdx, foldl_zipIdx c.cells.toList 0 off a (by simpa using hle)]
    simp
  rcases vrels_putN hp hc hx with ⟨g1, g2⟩ | ⟨g1, g2⟩
  · have g2' : off + c.cells.size ≤ a.size := by simpa using g2
    refine ⟨g2', hlen, ?_⟩
    rw [hfold g2']
    simpa using g1
  · have h0 : c.cells.size = 0 := by have := congrArg List.length g1; simpa using this
    have hle : off + c.cells.size ≤ a.size := by
      rcases hz with hz | hz
      · omega
      · omega
    refine ⟨hle, hlen, ?_⟩
    rw [hfold hle, g1, h0]
    subst g2
    simpa using hc

end
end Go.Ae
namespace Go.Ae
open Go

section
variable {P : Program} {σ : Sg} {ν : Nu} {ρ : Operand → Option AV} {r : Operand → Value}

/-! ### Build -/

theorem run_places : ∀ (fs : List Field), allInfo P fs = true → ∀ w, (fs.mapM (fun f => do pure (f.offset, ← sizeOf f.type) : Field → Sem (Nat × Nat))).run P w = .ok (fs.map fun f => (f.offset, P.cellsOf f.type)) w
  | [], _, w => by simp
  | f :: fs, h, w => by
    simp only [allInfo] at h
    split at h
    · rename_i n hn
      obtain ⟨i, hi, _⟩ := szOf_info hn
      have h1 := run_sizeOf hn w
      have h2 := run_places fs h w
      have h3 : P.cellsOf f.type = n := by simp [Program.cellsOf, hi]; assumption
      simp only [List.mapM_cons, Sem.run_bind, h1, Result.andThen_ok, Sem.run_pure, h2, List.map_cons, h3]
    · cases h

theorem fillS_rel {t : TypeId} {fs : Array Field} (hu : P.underlying t = some (.struct fs)) : ∀ {parts : List (Nat × AV)} {ps : List (Nat × Value)} {cs l : List AV} {a : Array Value},
    fillS P t cs parts = some l → prels σ ν parts ps → vrels σ ν cs a.toList →
    ∃ a', Instr.fill (((fs.toList.map fun f => (f.offset, P.cellsOf f.type)).toArray)[·]?) a ps = some a' ∧ vrels σ ν l a'.toList
  | [], ps, cs, l, a, h, hp, hc => by
    simp [fillS] at h
    subst h
    rw [show ps = [] from hp]
    exact ⟨a, rfl, hc⟩
  | (i, v) :: parts, ps, cs, l, a, h, ⟨c, ps', h1, h2, e⟩, hc => by
    subst e
    simp only [fillS] at h
    split at h
    · rename_i off n ft hf
      obtain ⟨fs', f, hu', hf', hn, ho, hft⟩ := fieldOf_rel hf
      rw [hu] at hu'
      cases hu'
      cases hb : Nat.beq v.cells.length n with
      | false => rw [hb] at h; simp at h
      | true =>
        cases hb2 : Nat.blt 0 n with
        | false => rw [hb, hb2] at h; simp at h
        | true =>
          rw [hb, hb2] at h
          simp only [Bool.and_self, cond_true] at h
          split at h
          · rename_i cs' hp
            have hlen := Nat.eq_of_beq_eq_true hb
            have hpos : 0 < n := by simp [Nat.blt] at hb2; omega
            obtain ⟨g1, g2, g3⟩ := fill_one hp hc h1 (.inl (by omega))
            obtain ⟨a', k1, k2⟩ := fillS_rel hu h h2 g3
            refine ⟨a', ?_, k2⟩
            obtain ⟨inf, hi, hs⟩ := szOf_info hn
            have hplace : ((fs.toList.map fun f => (f.offset, P.cellsOf f.type)).toArray)[i]? = some (off, n) := by
              simp [hf', Program.cellsOf, hft ▸ hi, ho, hft]
              exact hs
            simp only [Instr.fill, hplace]
            rw [if_neg (by rw [g2, hlen]; simp; omega)]
            exact k1
          · cases h
    · cases h

theorem build_rel {t : TypeId} {ps : Array (Nat × Operand)} {v : AV} (hρ : Rho σ ν ρ r) (hs : isStruct P t = true) (h : oBuild1 P t (zeroOf P t) (evp ρ ps.toList) = some v) :
    ∃ c, vrel σ ν v c ∧ ∀ w, (Instr.build t (ps.map fun (i, x) => (i, r x))).run P w = .ok c w := by
  unfold isStruct at hs
  split at hs
  · rename_i fs hu
    cases hz : zeroOf P t with
    | none => rw [hz] at h; simp [oBuild1] at h
    | some z =>
      cases hv : evp ρ ps.toList with
      | none => rw [hz, hv] at h; simp [oBuild1] at h
      | some vs =>
        rw [hz, hv] at h
        simp only [oBuild1] at h
        cases hf : fillS P t z.cells vs with
        | none => rw [hf] at h; simp [ags] at h
        | some cs =>
          rw [hf] at h
          simp [ags] at h
          subst h
          obtain ⟨zv, hzv, hrun⟩ := run_zeroValue hz
          have hzc := vrel_cells (ofVal_rel (σ := σ) (ν := ν) hzv)
          obtain ⟨a', k1, k2⟩ := fillS_rel hu hf (evp_rel hρ hv) hzc
          refine ⟨.agg a', ⟨a'.toList, k2, by simp⟩, fun w => ?_⟩
          have hp := run_places fs.toList hs w
          have hps : (ps.map fun (i, x) => (i, r x)).toList = ps.toList.map fun x => (x.1, r x.2) := by simp
          simp only [Instr.build, Sem.run_bind, hrun w, Result.andThen_ok, run_underlying hu w]
          rw [Array.mapM_eq_mapM_toList]
          simp only [Sem.run_map, hp, Result.andThen_ok, hps, k1, Sem.run_pure]
  · cases hs

/-! ### Numbers and slices -/

theorem natOf_rel {v : AV} {c : Value} {n : Nat} (h : natOf v = some n) (hv : vrel σ ν v c) : ∃ k, c = .int k (n : Int) := by
  unfold natOf at h
  split at h
  · simp at h; subst h; exact ⟨_, hv⟩
  · cases h

def orel : Option Nat → Option Value → Prop
  | none, c => c = none
  | some n, c => ∃ k, c = some (.int k (n : Int))

theorem natOpt_rel (hρ : Rho σ ν ρ r) {x : Option Operand} {n : Option Nat} (h : natOpt ρ x = some n) : orel n (x.map r) := by
  unfold natOpt at h
  split at h
  · simp at h; subst h; rfl
  · rename_i x
    split at h
    · rename_i v hv
      split at h
      · rename_i m hm
        simp at h
        subst h
        obtain ⟨k, hk⟩ := natOf_rel hm (hρ x v hv)
        exact ⟨k, by simp [hk]⟩
      · cases h
    · cases h

theorem run_sliceBound {k : IntKind} {n y : Nat} {code : BoundsCode} (h : n ≤ y) (w : World) : (Instr.sliceBound (.int k (n : Int)) y code).run P w = .ok n w := by
  simp [Instr.sliceBound, asIntOf, h]

theorem run_sliceBounds {isSlice : Bool} {len cap : Nat} {lo hi mx : Option Nat} {lo' hi' mx' : Option Value} (h1 : orel lo lo') (h2 : orel hi hi') (h3 : orel mx mx')
    (g1 : lo.getD 0 ≤ hi.getD len) (g2 : hi = none ∨ hi.getD len ≤ mx.getD cap) (g3 : mx.getD cap ≤ cap) (g4 : mx = none ∨ hi.isSome = true) (w : World) :
    (Instr.sliceBounds isSlice len cap lo' hi' mx').run P w = .ok (lo.getD 0, hi.getD len, mx.getD cap) w := by
  have b : ∀ {n y : Nat} {k : IntKind} {code : BoundsCode} (w : World), n ≤ y → (Instr.sliceBound (.int k (n : Int)) y code).run P w = .ok n w := fun w h => run_sliceBound h w
  cases mx with
  | none =>
    rw [show mx' = none from h3]
    cases hi with
    | none =>
      rw [show hi' = none from h2]
      cases lo with
      | none => rw [show lo' = none from h1]; simp [Instr.sliceBounds]
      | some l => obtain ⟨k, rfl⟩ := h1; simp at g1; simp [Instr.sliceBounds, b w g1]
    | some z =>
      obtain ⟨kz, rfl⟩ := h2
      simp at g2
      cases lo with
      | none => rw [show lo' = none from h1]; simp [Instr.sliceBounds, b w g2]
      | some l => obtain ⟨k, rfl⟩ := h1; simp at g1; simp [Instr.sliceBounds, b w g1, b w g2]
  | some m =>
    obtain ⟨km, rfl⟩ := h3
    simp at g3
    cases hi with
    | none => simp at g4
    | some z =>
      obtain ⟨kz, rfl⟩ := h2
      simp at g2
      cases lo with
      | none => rw [show lo' = none from h1]; simp [Instr.sliceBounds, b w g2, b w g3]
      | some l => obtain ⟨k, rfl⟩ := h1; simp at g1; simp [Instr.sliceBounds, b w g1, b w g2, b w g3]

/-- What a slice operation leaves of the names: none, or a name more. -/
def Named (ν : Nu) (h : AH) (ν' : Nu) (h' : AH) : Prop := (ν' = ν ∧ h' = h) ∨ ∃ e, ν' = ν ++ [e] ∧ h' = ⟨h.nx + 1, h.t⟩

theorem extract_mk (l : List UInt8) (a z : Nat) (_h : a ≤ z) : (ByteArray.mk l.toArray).extract a z = ⟨((l.take z).drop a).toArray⟩ := by
  apply ByteArray.ext
  simp [List.extract_eq_take_drop, List.drop_take]

theorem add_mul (b o k n : Nat) : (⟨b, o, none⟩ : Addr).add (n * k) = ⟨b, o + n * k, none⟩ := Addr.add_mid b o (n * k)

theorem slice_rel {t : TypeId} {h h' : AH} {x : AV} {c : Value} {lo hi mx : Option Nat} {lo' hi' mx' : Option Value} {v : AV} (hl : ν.length = h.nx) (hx : vrel σ ν x c) (h1 : orel lo lo') (h2 : orel hi hi') (h3 : orel mx mx')
    (hs : sliceA P t h x lo hi mx = some (v, h')) : ∃ ν' d, Named ν h ν' h' ∧ vrel σ ν' v d ∧ ∀ w, (Instr.sliceAt t c lo' hi' mx').run P w = .ok d w := by
  unfold sliceA at hs
  split at hs
  · -- a string
    rename_i l hu
    split at hs
    · cases hs
    · dsimp only at hs
      cases hb : (Nat.ble (lo.getD 0) (hi.getD l.length) && Nat.ble (hi.getD l.length) l.length) with
      | false => rw [hb] at hs; simp at hs
      | true =>
        rw [hb] at hs
        simp only [cond_true, Option.some.injEq, Prod.mk.injEq] at hs
        obtain ⟨rfl, rfl⟩ := hs
        simp only [Bool.and_eq_true, Nat.ble_eq] at hb
        rw [show c = _ from hx]
        refine ⟨ν, _, .inl ⟨rfl, rfl⟩, rfl, fun w => ?_⟩
        have hsz : (ByteArray.mk l.toArray).size = l.length := by simp [ByteArray.size]
        have hbd := run_sliceBounds (P := P) (isSlice := false) (len := l.length) (cap := l.length) h1 h2 h3 hb.1 (.inr hb.2) (Nat.le_refl _) (.inl rfl) w
        have hm : mx' = none := h3
        subst hm
        simp [Instr.sliceAt, run_underlying hu, Instr.slice, hsz, hbd, extract_mk _ _ _ hb.1]
  · -- nil
    rename_i el hu
    cases hb : ((szOf P el).isSome && Nat.beq (lo.getD 0) 0 && Nat.beq (hi.getD 0) 0 && Nat.beq (mx.getD 0) 0 && (mx.isNone || hi.isSome)) with
    | false => rw [hb] at hs; simp at hs
    | true =>
      rw [hb] at hs
      simp only [cond_true, Option.some.injEq, Prod.mk.injEq] at hs
      obtain ⟨rfl, rfl⟩ := hs
      simp only [Bool.and_eq_true, Nat.beq_eq, Bool.or_eq_true, Option.isNone_iff_eq_none, Option.isSome_iff_exists] at hb
      obtain ⟨⟨⟨⟨⟨k, b0⟩, b1⟩, b2⟩, b3⟩, b4⟩ := hb
      rw [show c = _ from hx]
      refine ⟨ν, _, .inl ⟨rfl, rfl⟩, rfl, fun w => ?_⟩
      have hbd := run_sliceBounds (P := P) (isSlice := true) (len := 0) (cap := 0) h1 h2 h3 (by omega) (.inr (by omega)) (by omega) (b4.imp id (fun ⟨_, e⟩ => by simp [e])) w
      have hsz := run_sizeOf b0 w
      simp [Instr.sliceAt, run_underlying hu, Instr.slice, hbd, b1, b2, b3, hsz]
  · -- an exact slice
    rename_i el n o len cap hu
    split at hs
    · rename_i k hk
      dsimp only at hs
      cases hb : (Nat.ble (lo.getD 0) (hi.getD len) && Nat.ble (hi.getD len) (mx.getD cap) && Nat.ble (mx.getD cap) cap && (mx.isNone || hi.isSome)) with
      | false => rw [hb] at hs; simp at hs
      | true =>
        rw [hb] at hs
        simp only [cond_true, Option.some.injEq, Prod.mk.injEq] at hs
        obtain ⟨rfl, rfl⟩ := hs
        simp only [Bool.and_eq_true, Nat.ble_eq, Bool.or_eq_true, Option.isNone_iff_eq_none] at hb
        obtain ⟨⟨⟨b1, b2⟩, b3⟩, b4⟩ := hb
        obtain ⟨e, he, rfl⟩ := hx
        refine ⟨ν, _, .inl ⟨rfl, rfl⟩, ⟨e, he, rfl⟩, fun w => ?_⟩
        have hbd := run_sliceBounds (P := P) (isSlice := true) (len := len) (cap := cap) h1 h2 h3 b1 (.inr b2) b3 b4 w
        have hsz := run_sizeOf hk w
        cases hq : Nat.beq (lo.getD 0) (mx.getD cap) with
        | true =>
          have := Nat.eq_of_beq_eq_true hq
          simp [Instr.sliceAt, run_underlying hu, Instr.slice, hbd, hsz, this]
        | false =>
          have := Nat.ne_of_beq_eq_false hq
          simp [Instr.sliceAt, run_underlying hu, Instr.slice, hbd, hsz, Ne.symm this, add_mul]
    · cases hs
  · -- an open slice
    rename_i el n o ee len hu
    split at hs
    · rename_i k hk
      dsimp only at hs
      cases hb : (Nat.ble (lo.getD 0) (hi.getD len) && Nat.ble (hi.getD len) len) with
      | false => rw [hb] at hs; simp at hs
      | true =>
        rw [hb] at hs
        simp only [cond_true] at hs
        simp only [Bool.and_eq_true, Nat.ble_eq] at hb
        obtain ⟨b1, b2⟩ := hb
        obtain ⟨e, he, hek, rfl⟩ := hx
        cases mx with
        | none =>
          have hm : mx' = none := h3
          subst hm
          have hbd := fun w => run_sliceBounds (P := P) (isSlice := true) (len := len) (cap := e.k - ee) h1 h2 (show orel none none from rfl) b1 (.inr (by simp; omega)) (Nat.le_refl _) (.inl rfl) w
          have hsz := fun w => run_sizeOf hk w
          simp only at hs
          cases hq : Nat.beq (lo.getD 0) 0 with
          | true =>
            rw [hq] at hs
            simp only [cond_true, Option.some.injEq, Prod.mk.injEq] at hs
            obtain ⟨rfl, rfl⟩ := hs
            have h0 := Nat.eq_of_beq_eq_true hq
            refine ⟨ν, _, .inl ⟨rfl, rfl⟩, ⟨e, he, by omega, rfl⟩, fun w => ?_⟩
            simp [Instr.sliceAt, run_underlying hu, Instr.slice, hbd w, hsz w, h0, Addr.add]
          | false =>
            rw [hq] at hs
            simp only [cond_false] at hs
            cases hq2 : Nat.beq (lo.getD 0) (hi.getD len) with
            | true =>
              rw [hq2] at hs
              simp only [cond_true, Option.some.injEq, Prod.mk.injEq] at hs
              obtain ⟨rfl, rfl⟩ := hs
              have h0 := Nat.eq_of_beq_eq_true hq2
              let e' : NE := ⟨e.b, e.k - ee - lo.getD 0, if e.k - ee = lo.getD 0 then o else o + lo.getD 0 * k, []⟩
              refine ⟨ν ++ [e'], .slice (some ⟨e'.b, e'.o, none⟩) 0 e'.k, .inr ⟨e', rfl, rfl⟩, ⟨e', by rw [← hl]; simp, rfl⟩, fun w => ?_⟩
              simp only [Instr.sliceAt, Sem.run_bind, run_underlying hu, Result.andThen_ok, Instr.slice, hbd w, hsz w, Sem.run_pure, Option.getD_none, ← h0, Nat.sub_self, e']
              split <;> simp [add_mul]
            | false =>
              rw [hq2] at hs
              simp only [cond_false, Option.some.injEq, Prod.mk.injEq] at hs
              obtain ⟨rfl, rfl⟩ := hs
              have h0 := Nat.ne_of_beq_eq_false hq2
              refine ⟨ν, _, .inl ⟨rfl, rfl⟩, ⟨e, he, by omega, rfl⟩, fun w => ?_⟩
              have hne : ¬ (e.k - ee = lo.getD 0) := by omega
              simp [Instr.sliceAt, run_underlying hu, Instr.slice, hbd w, hsz w, hne, add_mul, Nat.sub_sub]
        | some m =>
          simp only at hs
          cases hc : (hi.isSome && Nat.ble (hi.getD len) m && Nat.ble m len) with
          | false => rw [hc] at hs; simp at hs
          | true =>
            rw [hc] at hs
            simp only [cond_true, Option.some.injEq, Prod.mk.injEq] at hs
            obtain ⟨rfl, rfl⟩ := hs
            simp only [Bool.and_eq_true, Nat.ble_eq] at hc
            obtain ⟨⟨c1, c2⟩, c3⟩ := hc
            refine ⟨ν, _, .inl ⟨rfl, rfl⟩, ⟨e, he, rfl⟩, fun w => ?_⟩
            have hbd := run_sliceBounds (P := P) (isSlice := true) (len := len) (cap := e.k - ee) h1 h2 h3 b1 (.inr (by simpa using c2)) (by simp; omega) (.inr c1) w
            have hsz := run_sizeOf hk w
            cases hq : Nat.beq (lo.getD 0) m with
            | true =>
              have := Nat.eq_of_beq_eq_true hq
              simp [Instr.sliceAt, run_underlying hu, Instr.slice, hbd, hsz, this]
            | false =>
              have := Nat.ne_of_beq_eq_false hq
              simp [Instr.sliceAt, run_underlying hu, Instr.slice, hbd, hsz, Ne.symm this, add_mul]
    · cases hs
  · -- an empty one
    rename_i el zz n hu
    cases hb : ((szOf P el).isSome && Nat.beq (lo.getD 0) 0 && Nat.beq (hi.getD 0) 0 && Nat.beq (mx.getD 0) 0 && (mx.isNone || hi.isSome)) with
    | false => rw [hb] at hs; simp at hs
    | true =>
      rw [hb] at hs
      simp only [cond_true, Option.some.injEq, Prod.mk.injEq] at hs
      obtain ⟨rfl, rfl⟩ := hs
      simp only [Bool.and_eq_true, Nat.beq_eq, Bool.or_eq_true, Option.isNone_iff_eq_none, Option.isSome_iff_exists] at hb
      obtain ⟨⟨⟨⟨⟨k, b0⟩, b1⟩, b2⟩, b3⟩, b4⟩ := hb
      obtain ⟨e, he, rfl⟩ := hx
      refine ⟨ν, _, .inl ⟨rfl, rfl⟩, ⟨e, he, rfl⟩, fun w => ?_⟩
      have hbd := run_sliceBounds (P := P) (isSlice := true) (len := 0) (cap := bif zz then 0 else e.k) h1 h2 h3 (by omega) (.inr (by omega)) (by cases mx with
        | none => simp
        | some m => simp at b3; simp [b3]) (b4.imp id (fun ⟨_, e⟩ => by simp [e])) w
      have hsz := run_sizeOf b0 w
      cases mx with
      | none => simp [Instr.sliceAt, run_underlying hu, Instr.slice, hbd, b1, b2, hsz, Addr.add]
      | some m => simp at b3; simp [Instr.sliceAt, run_underlying hu, Instr.slice, hbd, b1, b2, b3, hsz]
  · -- an array
    rename_i len el n o hu
    split at hs
    · rename_i k hk
      dsimp only at hs
      cases hb : (Nat.ble (lo.getD 0) (hi.getD len) && Nat.ble (hi.getD len) (mx.getD len) && Nat.ble (mx.getD len) len && (mx.isNone || hi.isSome)) with
      | false => rw [hb] at hs; simp at hs
      | true =>
        rw [hb] at hs
        simp only [cond_true, Option.some.injEq, Prod.mk.injEq] at hs
        obtain ⟨rfl, rfl⟩ := hs
        simp only [Bool.and_eq_true, Nat.ble_eq, Bool.or_eq_true, Option.isNone_iff_eq_none] at hb
        obtain ⟨⟨⟨b1, b2⟩, b3⟩, b4⟩ := hb
        obtain ⟨e, he, rfl⟩ := hx
        refine ⟨ν, _, .inl ⟨rfl, rfl⟩, ⟨e, he, rfl⟩, fun w => ?_⟩
        have hbd := run_sliceBounds (P := P) (isSlice := false) (len := len) (cap := len) h1 h2 h3 b1 (.inr b2) b3 b4 w
        have hsz := run_sizeOf hk w
        cases hq : Nat.beq (lo.getD 0) (mx.getD len) with
        | true =>
          have := Nat.eq_of_beq_eq_true hq
          simp [Instr.sliceAt, Instr.sureAddr, run_underlying hu, hbd, hsz, this]
        | false =>
          have := Nat.ne_of_beq_eq_false hq
          simp [Instr.sliceAt, Instr.sureAddr, run_underlying hu, hbd, hsz, Ne.symm this, add_mul]
    · cases hs
  · cases hs

end
end Go.Ae
namespace Go.Ae
open Go

section
variable {P : Program} {σ : Sg} {ν : Nu} {ρ : Operand → Option AV} {r : Operand → Value}

theorem asP_rel (hρ : Rho σ ν ρ r) {x : Operand} {y : Nat × Nat} (h : asP (ρ x) = some y) : ∃ e, ν[y.1]? = some e ∧ r x = .pointer (some ⟨e.b, y.2, none⟩) := by
  unfold asP at h
  split at h
  · rename_i n o hx
    simp at h
    subst h
    obtain ⟨e, he, hr⟩ := hρ x _ hx
    exact ⟨e, he, hr⟩
  · cases h

theorem asB_rel (hρ : Rho σ ν ρ r) {x : Operand} {b : Bool} (h : asB (ρ x) = some b) : r x = .bool b := by
  unfold asB at h
  split at h
  · rename_i y hx
    simp at h
    subst h
    exact hρ x _ hx
  · cases h

theorem asTu_rel (hρ : Rho σ ν ρ r) {x : Operand} {l : List AV} (h : asTu (ρ x) = some l) : ∃ cs, vrels σ ν l cs ∧ r x = .tuple cs.toArray := by
  unfold asTu at h
  split at h
  · rename_i y hx
    simp at h
    subst h
    exact hρ x _ hx
  · cases h

theorem asAg_rel (hρ : Rho σ ν ρ r) {x : Operand} {l : List AV} (h : asAg (ρ x) = some l) : ∃ cs, vrels σ ν l cs ∧ r x = .agg cs.toArray := by
  unfold asAg at h
  split at h
  · rename_i y hx
    simp at h
    subst h
    exact hρ x _ hx
  · cases h

theorem nth_rel : ∀ {l : List AV} {k : Nat} {v : AV} {cs : List Value}, nth l k = some v → vrels σ ν l cs → ∃ c, cs[k]? = some c ∧ vrel σ ν v c
  | [], _, _, _, h, _ => by simp [nth] at h
  | x :: l, 0, _, _, h, ⟨c, cs, h1, h2, e⟩ => by simp [nth] at h; subst h e; exact ⟨c, rfl, h1⟩
  | x :: l, k + 1, _, _, h, ⟨c, cs, h1, h2, e⟩ => by
    simp only [nth] at h
    subst e
    obtain ⟨d, g1, g2⟩ := nth_rel h h2
    exact ⟨d, by simpa using g1, g2⟩

/-- The answer is a value, and nothing else has happened. -/
def Pur (P : Program) (σ : Sg) (ν : Nu) (r : Operand → Value) (o : Oper) (v : AV) : Prop := ∃ c, vrel σ ν v c ∧ ∀ w, (execOp r o).run P w = .ok (.value c) w

theorem o1_some {h h' : AH} {x : Option AV} {v : AV} (e : o1 h x = some (.v v h')) : x = some v ∧ h' = h := by
  cases x with
  | none => simp [o1] at e
  | some y => simp [o1] at e; exact ⟨by rw [e.1], e.2.symm⟩

theorem field_rel {t : TypeId} {k off n : Nat} {ft : TypeId} (h : fieldOf P t k = some (off, n, ft)) (hn : n ≠ 0) (b o : Nat) (w : World) :
    (Instr.fieldAt t (.pointer (some ⟨b, o, none⟩)) k).run P w = .ok (.pointer (some ⟨b, o + off, none⟩)) w := by
  obtain ⟨fs, f, hu, hf, hs, ho, _⟩ := fieldOf_rel h
  have hsz := run_sizeOf hs w
  simp [Instr.fieldAt, run_underlying hu, hf, Instr.sureAddr, fieldPlace, hsz, hn, ho]
  exact Addr.add_mid b o off

theorem idxAddr_rel {t : TypeId} {x y v : AV} {a b : Value} (hx : vrel σ ν x a) (hy : vrel σ ν y b) (h : idxAddr P t x y = some v) :
    ∃ c, vrel σ ν v c ∧ ∀ w, (Instr.indexAt t a b).run P w = .ok c w := by
  unfold idxAddr at h
  split at h
  · rename_i i hi
    obtain ⟨k, rfl⟩ := natOf_rel hi hy
    split at h
    · rename_i len el n o hu
      cases hb : Nat.blt i len with
      | false => rw [hb] at h; simp at h
      | true =>
        rw [hb] at h
        simp only [cond_true] at h
        split at h
        · rename_i sz hs
          simp at h
          subst h
          obtain ⟨e, he, rfl⟩ := hx
          have hlt : i < len := by simp [Nat.blt] at hb; omega
          refine ⟨_, ⟨e, he, rfl⟩, fun w => ?_⟩
          have hsz := run_sizeOf hs w
          simp [Instr.indexAt, asIntOf, run_underlying hu, Instr.sureAddr, hlt, hsz, add_mul]
        · cases h
    · rename_i el n o len cap hu
      cases hb : Nat.blt i len with
      | false => rw [hb] at h; simp at h
      | true =>
        rw [hb] at h
        simp only [cond_true] at h
        split at h
        · rename_i sz hs
          simp at h
          subst h
          obtain ⟨e, he, rfl⟩ := hx
          have hlt : i < len := by simp [Nat.blt] at hb; omega
          refine ⟨_, ⟨e, he, rfl⟩, fun w => ?_⟩
          have hsz := run_sizeOf hs w
          simp [Instr.indexAt, asIntOf, run_underlying hu, hlt, hsz, add_mul]
        · cases h
    · rename_i el n o ee len hu
      cases hb : Nat.blt i len with
      | false => rw [hb] at h; simp at h
      | true =>
        rw [hb] at h
        simp only [cond_true] at h
        split at h
        · rename_i sz hs
          simp at h
          subst h
          obtain ⟨e, he, _, rfl⟩ := hx
          have hlt : i < len := by simp [Nat.blt] at hb; omega
          refine ⟨_, ⟨e, he, rfl⟩, fun w => ?_⟩
          have hsz := run_sizeOf hs w
          simp [Instr.indexAt, asIntOf, run_underlying hu, hlt, hsz, add_mul]
        · cases h
    · cases h
  · cases h

theorem byteAt_rel {l : List UInt8} {i : Nat} {v : AV} (h : byteAt l i = some v) : ∃ b, l[i]? = some b ∧ v = .i .u8 b.toNat := by
  unfold byteAt at h
  split at h
  · rename_i c r hd
    simp at h
    refine ⟨c, ?_, h.symm⟩
    have := congrArg (·[0]?) hd
    simpa using this
  · cases h

theorem idxS_rel {t : TypeId} {x y v : AV} {a b : Value} (hs : isStr P t = true) (hx : vrel σ ν x a) (hy : vrel σ ν y b) (h : idxS (some x) (some y) = some v) :
    ∃ c, vrel σ ν v c ∧ ∀ w, (Instr.index t a b).run P w = .ok c w := by
  have hu : P.underlying t = some .string := by
    unfold isStr at hs
    split at hs
    · assumption
    · cases hs
  unfold idxS at h
  split at h
  · rename_i l c h1 h2
    cases h1
    cases h2
    split at h
    · rename_i i hi
      obtain ⟨k, rfl⟩ := natOf_rel hi hy
      obtain ⟨bb, hb, rfl⟩ := byteAt_rel h
      rw [show a = _ from hx]
      refine ⟨_, rfl, fun w => ?_⟩
      have : (ByteArray.mk l.toArray)[i]? = some bb := by
        obtain ⟨hlt, hget⟩ := List.getElem?_eq_some_iff.1 hb
        have hsz : (ByteArray.mk l.toArray).size = l.length := by simp [ByteArray.size]
        rw [getElem?_pos (ByteArray.mk l.toArray) i (by rw [hsz]; exact hlt)]
        congr 1
      simp [Instr.index, asIntOf, run_underlying hu, this]
    · cases h
  · cases h

theorem mm_rel {mx : Bool} {args : List AV} {v : AV} {cs : List Value} (h : mm mx args = some v) (hc : vrels σ ν args cs) (t : TypeId) (ats : Array TypeId) :
    ∃ c, vrel σ ν v c ∧ ∀ w, ((if mx then Builtin.max_ ats t cs.toArray else Builtin.min_ ats t cs.toArray)).run P w = .ok c w := by
  unfold mm at h
  split at h
  · rename_i k a k' b
    obtain ⟨c1, _, h1, ⟨c2, _, h2, h3, rfl⟩, rfl⟩ := hc
    rw [show c1 = _ from h1, show c2 = _ from h2, show _ = [] from h3]
    cases hk : k == k' with
    | false => rw [hk] at h; simp at h
    | true =>
      rw [hk] at h
      simp only [cond_true, Option.some.injEq] at h
      subst h
      cases mx
      · refine ⟨_, rfl, fun w => ?_⟩
        simp [Builtin.min_, Builtin.min2]
      · refine ⟨_, rfl, fun w => ?_⟩
        simp [Builtin.max_, Builtin.max2]
  · cases h

theorem op_pur {o : Oper} {h h' : AH} {v : AV} (hk : kind P o = .pur) (hρ : Rho σ ν ρ r) (hop : opD P ρ h o.op = some (.v v h')) : h' = h ∧ Pur P σ ν r o v := by
  obtain ⟨dst, op, type, pos, after, guard⟩ := o
  cases op <;> simp only [kind] at hk <;> (try (simp at hk; done)) <;> simp only [opD] at hop <;> unfold Pur <;> simp only [execOp]
  case move x =>
    obtain ⟨h1, rfl⟩ := o1_some hop
    exact ⟨rfl, r x, hρ x v h1, fun w => rfl⟩
  case pick c a d =>
    unfold oPick at hop
    split at hop
    · rename_i b hb
      obtain ⟨h1, rfl⟩ := o1_some hop
      refine ⟨rfl, if b then r a else r d, ?_, fun w => ?_⟩
      · cases b
        · exact hρ d v h1
        · exact hρ a v h1
      · simp [asB_rel hρ hb, asBool]
    · cases hop
  case build t ps =>
    unfold oBuild at hop
    cases hs : isStruct P t with
    | false => rw [hs] at hop; simp at hop
    | true =>
      rw [hs] at hop
      obtain ⟨h1, rfl⟩ := o1_some hop
      obtain ⟨c, h2, h3⟩ := build_rel hρ hs h1
      exact ⟨rfl, c, h2, fun w => by simp [h3 w]⟩
  case nilCheck x =>
    cases hx : asP (ρ x) with
    | none => rw [hx] at hop; simp [oNil] at hop
    | some y =>
      rw [hx] at hop
      simp [oNil] at hop
      obtain ⟨rfl, rfl⟩ := hop
      obtain ⟨e, he, hr⟩ := asP_rel hρ hx
      exact ⟨rfl, _, ⟨e, he, rfl⟩, fun w => by simp [hr]⟩
  case binOp bo ty x y yt =>
    cases hx : ρ x with
    | none => rw [hx] at hop; simp [oBin] at hop
    | some a =>
      cases hy : ρ y with
      | none => rw [hx, hy] at hop; simp [oBin] at hop
      | some b =>
        rw [hx, hy] at hop
        obtain ⟨h1, rfl⟩ := o1_some hop
        obtain ⟨c, h2, h3⟩ := binA_rel (hρ x a hx) (hρ y b hy) h1 x y
        refine ⟨rfl, c, h2, fun w => ?_⟩
        have := h3 w
        simp only [Sem.run_bind] at this ⊢
        rw [this]
        rfl
  case unOp u ty x =>
    cases hx : ρ x with
    | none => rw [hx] at hop; simp [oUn] at hop
    | some a =>
      rw [hx] at hop
      have key : ∀ {v}, oUn1 P u (toVal a) = some v → ∃ c, vrel σ ν v c ∧ ∀ w, (Op.unary u (r x)).run P w = .ok c w := by
        intro v hv
        cases ht : toVal a with
        | none => rw [ht] at hv; simp [oUn1] at hv
        | some c0 =>
          rw [ht] at hv
          rw [toVal_rel (hρ x a hx) ht]
          exact pureV_run hv
      unfold oUn at hop
      split at hop
      · rename_i b hb
        cases hb
        split at hop
        · simp at hop
          obtain ⟨rfl, rfl⟩ := hop
          have := hρ x _ hx
          exact ⟨rfl, _, rfl, fun w => by rw [show r x = _ from this]; simp [Op.unary]⟩
        · cases hop
      · rename_i a' _ hb
        cases hb
        obtain ⟨h1, rfl⟩ := o1_some hop
        obtain ⟨c, h2, h3⟩ := key h1
        exact ⟨rfl, c, h2, fun w => by simp [h3 w]⟩
      · cases hop
  case convert s d x =>
    cases hx : ρ x with
    | none => rw [hx] at hop; simp [oConv] at hop
    | some a =>
      rw [hx] at hop
      simp only [oConv] at hop
      have num : ∀ {c : Value} {v' : AV}, vrel σ ν a c → toV a = some c → pureV P (Go.convert s d c) = some v' → ∃ c', vrel σ ν v' c' ∧ ∀ w, (Go.convert s d (r x)).run P w = .ok c' w := by
        intro c v' hc hv hp
        rw [toV_rel (hρ x a hx) hv]
        exact pureV_run hp
      have fin : ∀ {c'}, vrel σ ν v c' → (∀ w, (Go.convert s d (r x)).run P w = .ok c' w) → ∃ c, vrel σ ν v c ∧ ∀ w, (do pure (Next.value (← Go.convert s d (r x))) : Sem Next).run P w = .ok (.value c) w :=
        fun hc hr => ⟨_, hc, fun w => by simp [hr w]⟩
      have nostr : P.underlying d ≠ some .string := fun e => by rw [e] at hk; simp at hk
      have noslice : ∀ e, P.underlying d ≠ some (.slice e) := fun e e' => by rw [e'] at hk; simp at hk
      unfold conv at hop
      split at hop
      · split at hop
        · rename_i v' hp
          simp [o2] at hop
          obtain ⟨rfl, rfl⟩ := hop
          obtain ⟨c', h1, h2⟩ := num rfl rfl hp
          exact ⟨rfl, fin h1 h2⟩
        · simp [o2] at hop
      · split at hop
        · rename_i v' hp
          simp [o2] at hop
          obtain ⟨rfl, rfl⟩ := hop
          obtain ⟨c', h1, h2⟩ := num rfl rfl hp
          exact ⟨rfl, fin h1 h2⟩
        · simp [o2] at hop
      all_goals
        exfalso
        repeat' split at hop
        all_goals first
          | (simp [o2] at hop; done)
          | exact absurd (by assumption) nostr
          | exact absurd (by assumption) (noslice _)
  case makeFunc f first cap =>
    cases h1 : evs ρ first.toList with
    | none => rw [h1] at hop; simp [oFn] at hop
    | some a =>
      cases h2 : evs ρ cap.toList with
      | none => rw [h1, h2] at hop; simp [oFn] at hop
      | some c =>
        rw [h1, h2] at hop
        simp [oFn] at hop
        obtain ⟨rfl, rfl⟩ := hop
        refine ⟨rfl, _, ⟨_, _, evs_rel hρ h1, evs_rel hρ h2, rfl⟩, fun w => ?_⟩
        simp [Instr.makeFunc]
        exact ⟨by rw [← List.map_toArray], by rw [← List.map_toArray]⟩
  case fieldAddr ty x k =>
    cases hx : asP (ρ x) with
    | none => rw [hx] at hop; simp [oFa] at hop
    | some y =>
      cases hf : fieldOf P ty k with
      | none => rw [hx, hf] at hop; simp [oFa] at hop
      | some z =>
        obtain ⟨off, n, ft⟩ := z
        rw [hx, hf] at hop
        simp only [oFa] at hop
        cases hn : Nat.beq n 0 with
        | true => rw [hn] at hop; simp at hop
        | false =>
          rw [hn] at hop
          simp only [cond_false, Option.some.injEq, R.v.injEq] at hop
          obtain ⟨rfl, rfl⟩ := hop
          obtain ⟨e, he, hr⟩ := asP_rel hρ hx
          refine ⟨rfl, _, ⟨e, he, rfl⟩, fun w => ?_⟩
          have := field_rel hf (Nat.ne_of_beq_eq_false hn) e.b y.2 w
          rw [hr]
          simp [this]
  case field ty x k =>
    cases hx : asAg (ρ x) with
    | none => rw [hx] at hop; simp [oFld] at hop
    | some cs =>
      cases hf : fieldOf P ty k with
      | none => rw [hx, hf] at hop; simp [oFld] at hop
      | some z =>
        obtain ⟨off, n, ft⟩ := z
        rw [hx, hf] at hop
        simp only [oFld] at hop
        obtain ⟨h1, rfl⟩ := o1_some hop
        obtain ⟨vs, g1, g2⟩ := asAg_rel hρ hx
        obtain ⟨fs, f, hu, hf', hs, ho, hft⟩ := fieldOf_rel hf
        obtain ⟨c, k1, k2⟩ := part_rel h1 g1
        refine ⟨rfl, c, k1, fun w => ?_⟩
        have := k2 w
        simp [Instr.field, run_underlying hu, hf', g2, asAgg, hft, ho, this]
  case indexAddr ty x y =>
    cases hx : ρ x with
    | none => rw [hx] at hop; simp [oIa] at hop
    | some a =>
      cases hy : ρ y with
      | none => rw [hx, hy] at hop; simp [oIa] at hop
      | some b =>
        rw [hx, hy] at hop
        obtain ⟨h1, rfl⟩ := o1_some hop
        obtain ⟨c, h2, h3⟩ := idxAddr_rel (hρ x a hx) (hρ y b hy) h1
        exact ⟨rfl, c, h2, fun w => by simp [h3 w]⟩
  case index ty x y =>
    unfold oIdx at hop
    cases hs : isStr P ty with
    | false => rw [hs] at hop; simp at hop
    | true =>
      rw [hs] at hop
      obtain ⟨h1, rfl⟩ := o1_some hop
      cases hx : ρ x with
      | none => rw [hx] at h1; simp [idxS] at h1
      | some a =>
        cases hy : ρ y with
        | none => rw [hx, hy] at h1; cases a <;> simp [idxS] at h1
        | some b =>
          rw [hx, hy] at h1
          obtain ⟨c, h2, h3⟩ := idxS_rel hs (hρ x a hx) (hρ y b hy) h1
          exact ⟨rfl, c, h2, fun w => by simp [h3 w]⟩
  case extract x k =>
    cases hx : asTu (ρ x) with
    | none => rw [hx] at hop; simp [oEx] at hop
    | some l =>
      rw [hx] at hop
      obtain ⟨h1, rfl⟩ := o1_some hop
      obtain ⟨cs, g1, g2⟩ := asTu_rel hρ hx
      obtain ⟨c, k1, k2⟩ := nth_rel h1 g1
      refine ⟨rfl, c, k2, fun w => ?_⟩
      simp [Instr.extract, g2, k1]
  case call c =>
    obtain ⟨callee, args, ats⟩ := c
    cases callee <;> simp only at hk <;> (try (cases hk; done))
    rename_i b
    simp only [oCall] at hop
    cases ha : evs ρ args.toList with
    | none => rw [ha] at hop; simp [oBu] at hop
    | some vs =>
      rw [ha] at hop
      simp only [oBu] at hop
      have hc := evs_rel hρ ha
      have harr : (args.map r) = (args.toList.map r).toArray := by rw [← List.map_toArray]
      generalize hcs : args.toList.map r = cs at hc harr
      have fin : ∀ {c' : Value} (s : Sem Value), vrel σ ν v c' → (∀ w, s.run P w = .ok c' w) → ∃ c, vrel σ ν v c ∧ ∀ w, (do pure (Next.value (← s)) : Sem Next).run P w = .ok (.value c) w :=
        fun s hc hr => ⟨_, hc, fun w => by simp [hr w]⟩
      cases b <;> simp only [kindB] at hk <;> (try (cases hk; done))
      case len =>
        simp only [builtinA] at hop
        split at hop
        · rename_i t x ht
          obtain ⟨c1, _, g1, g2, rfl⟩ := hc
          rw [show _ = [] from g2] at harr
          have hlen : ∀ n : Nat, v = .i .i64 n → (∀ w, (Builtin.len_ ats type #[c1]).run P w = .ok (goInt n) w) → h' = h → h' = h ∧ ∃ c, vrel σ ν v c ∧
              ∀ w, (do let d ← resolve r { callee := .builtin .len, args := args, argTypes := ats } type; invoke d.target d.args).run P w = .ok (.value c) w := by
            intro n hv hr he
            refine ⟨he, goInt n, by rw [hv]; rfl, fun w => ?_⟩
            simp [resolve, invoke, builtin, harr, hr w]
          split at hop
          · rename_i l hu
            simp at hop
            obtain ⟨rfl, rfl⟩ := hop
            refine hlen _ rfl (fun w => ?_) rfl
            rw [show c1 = _ from g1]
            have hsz : (ByteArray.mk l.toArray).size = l.length := by simp [ByteArray.size]
            simp [Builtin.len_, ht, run_underlying hu, hsz]
          · rename_i el hu
            split at hop
            · simp at hop
              obtain ⟨rfl, rfl⟩ := hop
              refine hlen 0 rfl (fun w => ?_) rfl
              rw [show c1 = _ from g1]
              simp [Builtin.len_, ht, run_underlying hu]
            · simp at hop
              obtain ⟨rfl, rfl⟩ := hop
              obtain ⟨e, _, rfl⟩ := g1
              refine hlen 0 rfl (fun w => ?_) rfl
              simp [Builtin.len_, ht, run_underlying hu]
            · simp at hop
              obtain ⟨rfl, rfl⟩ := hop
              obtain ⟨e, _, rfl⟩ := g1
              refine hlen _ rfl (fun w => ?_) rfl
              simp [Builtin.len_, ht, run_underlying hu]
            · simp at hop
              obtain ⟨rfl, rfl⟩ := hop
              obtain ⟨e, _, _, rfl⟩ := g1
              refine hlen _ rfl (fun w => ?_) rfl
              simp [Builtin.len_, ht, run_underlying hu]
            · cases hop
          · rename_i hu; rw [ht] at hk; simp [hu] at hk
          · rename_i hu; rw [ht] at hk; simp [hu] at hk
          · cases hop
        · cases hop
      case max =>
        simp only [builtinA] at hop
        split at hop
        · rename_i v' hm
          simp at hop
          obtain ⟨rfl, rfl⟩ := hop
          obtain ⟨c, k1, k2⟩ := mm_rel (P := P) hm hc type ats
          refine ⟨rfl, c, k1, fun w => ?_⟩
          have := k2 w
          simp only [if_true] at this
          simp [resolve, invoke, builtin, harr, this]
        · cases hop
      case min =>
        simp only [builtinA] at hop
        split at hop
        · rename_i v' hm
          simp at hop
          obtain ⟨rfl, rfl⟩ := hop
          obtain ⟨c, k1, k2⟩ := mm_rel (P := P) hm hc type ats
          refine ⟨rfl, c, k1, fun w => ?_⟩
          have := k2 w
          simp only [Bool.false_eq_true, if_false] at this
          simp [resolve, invoke, builtin, harr, this]
        · cases hop

end
end Go.Ae
