/- An interpreter over an abstract heap, and its soundness over the machine: part Code. -/
import Derived.Test.YtebdajfangbdpaaViBase
set_option linter.unusedVariables false
set_option linter.unusedSimpArgs false
set_option linter.unusedSectionVars false
namespace Go.Proofs.Ytebdajfangbdpaa.VI
open Go Go.RowKit

abbrev Sl := Nat → AV
def upd (σ : Sl) (d : Nat) (v : AV) : Sl := fun j => if j = d then v else σ j
def putS (σ : Sl) (d : Option Nat) (v : AV) : Sl := match d with | some d => upd σ d v | none => σ

inductive Opd where
  | t (n : Nat)
  | k (v : AV)
def Opd.ev (σ : Sl) : Opd → AV
  | .t n => σ n
  | .k v => v

/-- What an equality is asked of. -/
inductive EqK where
  | int | bool | str | slice | ptr | other
  | agg (l : List EqK)

inductive KOp where
  | mov (x : Opd)
  | pick (c a b : Opd)
  | alloc (e : TypeId) (z : List CV)
  | box (e : TypeId) (x : Opd)
  | build (z : List CV) (parts : List (Nat × Nat × Opd))
  | buildSl (e : TypeId) (len : Nat) (z : List CV) (parts : List (Nat × Nat × Opd))
  | load1 (a : Opd)
  | loadN (n : Nat) (a : Opd)
  | store (n : Nat) (a x : Opd)
  | nilchk (x : Opd)
  | bin (op : BinOp) (q : EqK) (x y : Opd)
  | un (op : UnOp) (x : Opd)
  | conv (k : IntKind) (x : Opd)
  | convBS (x : Opd)
  | idxN (len size : Nat) (x i : Opd)
  | idx1 (len : Nat) (x i : Opd)
  | idxStr (x i : Opd)
  | idxA (len size : Nat) (x i : Opd)
  | idxS (size : Nat) (x i : Opd)
  | fldA (off : Nat) (x : Opd)
  | fldN (off n : Nat) (x : Opd)
  | fld1 (off : Nat) (x : Opd)
  | sliceS (size : Nat) (x : Opd) (lo hi mx : Option Opd)
  | sliceStr (x : Opd) (lo hi : Option Opd)
  | mkSl (e : TypeId) (z : List CV) (bytes : Nat) (l c : Opd)
  | mkFn (f : FuncId) (caps : List Opd)
  | ext (x : Opd) (i : Nat)
  | len (str : Bool) (x : Opd)
  | lenA (n : Nat)
  | app (e : TypeId) (size bytes : Nat) (x y : Opd)
  | min (xs : List Opd)
  | max (xs : List Opd)
  | call (f : Opd) (xs : List Opd)

structure KO where
  dst : Option Nat
  op : KOp
  g : Option (Nat × Bool)

inductive KC where
  | skip
  | region (ops : List KO)
  | drawn (steps : List (KO × List KO))
  | seq (a b : KC)
  | cond (x : Opd) (a b : KC)
  | block (id : Nat) (c : KC)
  | loop (c : KC)
  | exit (id : Nat)
  | ret

inductive KR where
  | tmp (t : Nat)
  | cell1 (t : Nat)
  | cellN (t n : Nat)

structure KF where
  np : Nat
  body : KC
  res : List KR
  gc : Bool

/-! ### Arithmetic -/
def vand (k : IntKind) (a b : Int) : Int := k.wrap ((BitVec.ofInt k.bits a &&& BitVec.ofInt k.bits b).toNat)
def vor (k : IntKind) (a b : Int) : Int := k.wrap ((BitVec.ofInt k.bits a ||| BitVec.ofInt k.bits b).toNat)
def vxor (k : IntKind) (a b : Int) : Int := k.wrap ((BitVec.ofInt k.bits a ^^^ BitVec.ofInt k.bits b).toNat)
def vandNot (k : IntKind) (a b : Int) : Int := k.wrap ((BitVec.ofInt k.bits a &&& ~~~ BitVec.ofInt k.bits b).toNat)
def vshl (k : IntKind) (a : Int) (n : Int) : Int := k.wrap (a * 2 ^ (Nat.min n.toNat k.bits))
def vshr (k : IntKind) (a : Int) (n : Int) : Int := a.fdiv (2 ^ (Nat.min n.toNat k.bits))

def intBin (op : BinOp) (k : IntKind) (a b : Int) : Option CV :=
  match op with
  | .add => some (.int k (k.wrap (a + b)))
  | .sub => some (.int k (k.wrap (a - b)))
  | .mul => some (.int k (k.wrap (a * b)))
  | .quo => if b = 0 then none else some (.int k (k.wrap (a.tdiv b)))
  | .rem => if b = 0 then none else some (.int k (a.tmod b))
  | .and => some (.int k (vand k a b))
  | .or => some (.int k (vor k a b))
  | .xor => some (.int k (vxor k a b))
  | .andNot => some (.int k (vandNot k a b))
  | .eql => some (.bool (a == b))
  | .neq => some (.bool (a != b))
  | .lss => some (.bool (decide (a < b)))
  | .leq => some (.bool (decide (a ≤ b)))
  | .gtr => some (.bool (decide (b < a)))
  | .geq => some (.bool (decide (b ≤ a)))
  | .shl => if b < 0 then none else some (.int k (vshl k a b))
  | .shr => if b < 0 then none else some (.int k (vshr k a b))

def strBin (op : BinOp) (a b : ByteArray) : Option CV :=
  match op with
  | .add => if a.size + b.size ≤ 140737488355328 then some (.str (a ++ b)) else none
  | .eql => some (.bool (a.toList == b.toList))
  | .neq => some (.bool (!(a.toList == b.toList)))
  | .lss => some (.bool (Op.bytesLess a.toList b.toList))
  | _ => none

def eqRes (op : BinOp) (r : Bool) : Option CV :=
  match op with
  | .eql => some (.bool r)
  | .neq => some (.bool !r)
  | _ => none

def binC (op : BinOp) (q : EqK) (x y : CV) : Option CV :=
  match x, y with
  | .int k a, .int k' b => if (op = .shl ∨ op = .shr) ∨ k = k' then intBin op k a b else none
  | .str a, .str b => strBin op a b
  | .bool a, .bool b => match q with | .bool => eqRes op (a == b) | _ => none
  | .slice none _ _, .slice b _ _ => match q with | .slice => eqRes op b.isNone | _ => none
  | .slice (some _) _ _, .slice none _ _ => match q with | .slice => eqRes op false | _ => none
  | .ptr none, .ptr b => match q with | .ptr => eqRes op b.isNone | _ => none
  | .ptr (some _), .ptr none => match q with | .ptr => eqRes op false | _ => none
  | _, _ => none

/-- Equality of one cell. -/
def eqC (q : EqK) (x y : CV) : Option Bool :=
  match q, x, y with
  | .int, .int k a, .int k' b => if k = k' then some (a == b) else none
  | .bool, .bool a, .bool b => some (a == b)
  | .str, .str a, .str b => some (a == b)
  | _, _, _ => none
def eqCells : List EqK → List CV → List CV → Option Bool
  | [], [], [] => some true
  | q :: qs, x :: xs, y :: ys => match eqC q x y, eqCells qs xs ys with
    | some a, some b => some (a && b)
    | _, _ => none
  | _, _, _ => none

def binA (op : BinOp) (q : EqK) (x y : AV) : Option AV :=
  match x, y with
  | .c x, .c y => (binC op q x y).map .c
  | .agg xs, .agg ys => match q with
    | .agg l => match eqCells l xs ys with
      | some r => (eqRes op r).map .c
      | none => none
    | _ => none
  | _, _ => none

def unA (op : UnOp) (x : AV) : Option AV :=
  match op, x with
  | .neg, .c (.int k n) => some (.c (.int k (k.wrap (0 - n))))
  | .xor, .c (.int k n) => some (.c (.int k (vxor k (if k.signed then -1 else k.max) n)))
  | .not, .c (.bool b) => some (.c (.bool !b))
  | _, _ => none

/-! ### The heap -/
def readCells (H : AHeap) (p : Nat × Nat) (n : Nat) : Option (List CV) :=
  match H.get p.1 with
  | some blk => if p.2 + n ≤ blk.cells.length then some ((blk.cells.drop p.2).take n) else none
  | none => none
def readCell (H : AHeap) (p : Nat × Nat) : Option CV :=
  match H.get p.1 with
  | some blk => blk.cells[p.2]?
  | none => none
def CV.ok : CV → Bool
  | .undef => false
  | _ => true
def setAt (l : List CV) (off : Nat) (vs : List CV) : List CV := l.take off ++ vs ++ l.drop (off + vs.length)
def writeCells (H : AHeap) (p : Nat × Nat) (vs : List CV) : Option AHeap :=
  match H.get p.1 with
  | some blk => match blk.m with
    | .ro => none
    | _ => if p.2 + vs.length ≤ blk.cells.length ∧ vs.all CV.ok = true then some (H.set p.1 (some { blk with cells := setAt blk.cells p.2 vs })) else none
  | none => none

def fillC (z : List CV) : List (Nat × Nat × List CV) → Option (List CV)
  | [] => some z
  | (off, n, cs) :: rest => if cs.length = n ∧ off + n ≤ z.length then fillC (setAt z off cs) rest else none

def partsA (σ : Sl) : List (Nat × Nat × Opd) → Option (List (Nat × Nat × List CV))
  | [] => some []
  | (off, n, x) :: rest => match (x.ev σ).cells?, partsA σ rest with
    | some cs, some l => some ((off, n, cs) :: l)
    | _, _ => none

def capsA (σ : Sl) : List Opd → Option (List (Nat × Nat))
  | [] => some []
  | x :: rest => match x.ev σ, capsA σ rest with
    | .c (.ptr (some p)), some l => some (p :: l)
    | _, _ => none

def intA : AV → Option Int
  | .c (.int _ n) => some n
  | _ => none

def optInt (σ : Sl) : Option Opd → Option (Option Int)
  | none => some none
  | some x => match x.ev σ with
    | .c (.int _ n) => some (some n)
    | _ => none

/-- The capacity behind a cut at l. -/
def capCut (s l n : Nat) : Cap → Cap
  | .exact k => .exact (k - l)
  | .toEnd sz => if n = 0 ∨ sz ≠ s then .any else .toEnd sz
  | .any => .any
/-- The bounds of a cut: low, high. -/
def sliceA (size : Nat) (x : AV) (lo hi mx : Option Int) : Option AV :=
  match x with
  | .c (.slice a len cap) =>
    let h := hi.getD len
    let l := lo.getD 0
    if 0 ≤ l ∧ l ≤ h ∧ h ≤ len then
      match mx with
      | none => some (.c (.slice (a.map fun p => (p.1, p.2 + l.toNat * size)) (h - l).toNat (capCut size l.toNat (h - l).toNat cap)))
      | some m => if h ≤ m ∧ m ≤ len ∧ hi.isSome then some (.c (.slice (a.map fun p => (p.1, p.2 + l.toNat * size)) (h - l).toNat (.exact (m - l).toNat))) else none
    else none
  | _ => none

def sliceStrA (x : AV) (lo hi : Option Int) : Option AV :=
  match x with
  | .c (.str s) =>
    let h := hi.getD s.size
    let l := lo.getD 0
    if 0 ≤ l ∧ l ≤ h ∧ h ≤ s.size then some (.c (.str (s.extract l.toNat h.toNat))) else none
  | _ => none

def bytesOfCells : List CV → Option (List UInt8)
  | [] => some []
  | .int .u8 n :: rest => (bytesOfCells rest).map (UInt8.ofNat n.toNat :: ·)
  | _ => none

/-- The cells that an append takes from its second argument. -/
def srcCells (H : AHeap) (size : Nat) : AV → Option (Nat × List CV)
  | .c (.slice none _ _) => some (0, [])
  | .c (.slice (some p) l _) => if l = 0 then some (0, []) else (readCells H p (l * size)).map fun cs => (l, cs)
  | .c (.str s) => if size = 1 then some (s.size, s.data.toList.map fun b => .int .u8 b.toNat) else none
  | _ => none

/-- An append: the block that it makes; the elder one, if it was the call's own, is dead. -/
def appendA (H : AHeap) (e : TypeId) (size bytes : Nat) (x y : AV) : Option (AV × AHeap) :=
  match x, srcCells H size y with
  | .c (.slice a len cap), some (n, cs) =>
    if n = 0 then some (x, H)
    else if (len + n) * bytes ≤ 70368744177664 ∧ cs.all CV.ok = true then
      match a with
      | none => some (.c (.slice (some (H.length, 0)) n (.toEnd size)), H ++ [some ⟨e, cs, .opn⟩])
      | some p =>
        match cap with
        | .exact k =>
          if len + n ≤ k then (writeCells H (p.1, p.2 + len * size) cs).map fun H' => (.c (.slice (some p) (len + n) (.exact k)), H')
          else if len = 0 then some (.c (.slice (some (H.length, 0)) n (.toEnd size)), H ++ [some ⟨e, cs, .opn⟩])
          else match readCells H p (len * size) with
            | some old => some (.c (.slice (some (H.length, 0)) (len + n) (.toEnd size)), H ++ [some ⟨e, old ++ cs, .opn⟩])
            | none => none
        | .toEnd sz => match H.get p.1 with   -- the call's own row, to its end
          | some blk => match blk.m with
            | .ro => none
            | _ => if sz = size ∧ 0 < len ∧ p.2 = 0 ∧ blk.cells.length = len * size ∧ blk.e = e then
                some (.c (.slice (some (H.length, 0)) (len + n) (.toEnd size)), H.set p.1 none ++ [some ⟨e, blk.cells ++ cs, .opn⟩])
              else none
          | none => none
        | .any => none
    else none
  | _, _ => none

def minL : Int → List AV → IntKind → Option Int
  | m, [], _ => some m
  | m, .c (.int k n) :: r, k0 => if k = k0 then minL (if n < m then n else m) r k0 else none
  | _, _ :: _, _ => none
def maxL : Int → List AV → IntKind → Option Int
  | m, [], _ => some m
  | m, .c (.int k n) :: r, k0 => if k = k0 then maxL (if n > m then n else m) r k0 else none
  | _, _ :: _, _ => none

abbrev CallA := FuncId → List AV → AHeap → Option (AV × AHeap)

def evalOp (call : CallA) (σ : Sl) (H : AHeap) : KOp → Option (AV × AHeap)
  | .mov x => some (x.ev σ, H)
  | .pick c a b => match c.ev σ with
    | .c (.bool t) => some (if t then a.ev σ else b.ev σ, H)
    | _ => none
  | .alloc e z => some (.c (.ptr (some (H.length, 0))), H ++ [some ⟨e, z, .own⟩])
  | .box e x => match (x.ev σ).cells? with
    | some cs => some (.c (.ptr (some (H.length, 0))), H ++ [some ⟨e, cs, .own⟩])
    | none => none
  | .build z parts => match partsA σ parts with
    | some l => (fillC z l).map fun cs => (.agg cs, H)
    | none => none
  | .buildSl e len z parts => match partsA σ parts with
    | some l => (fillC z l).map fun cs => (.c (.slice (some (H.length, 0)) len (.exact len)), H ++ [some ⟨e, cs, .own⟩])
    | none => none
  | .load1 a => match a.ev σ with
    | .c (.ptr (some p)) => (readCell H p).map fun v => (.c v, H)
    | _ => none
  | .loadN n a => match a.ev σ with
    | .c (.ptr (some p)) => (readCells H p n).map fun cs => (.agg cs, H)
    | _ => none
  | .store n a x => match a.ev σ with
    | .c (.ptr (some p)) => match (x.ev σ).cells? with
      | some cs => if cs.length = n then (writeCells H p cs).map fun H' => (.c .undef, H') else none
      | none => none
    | _ => none
  | .nilchk x => match x.ev σ with
    | .c (.ptr (some p)) => some (.c (.ptr (some p)), H)
    | .c (.fn f cs) => some (.c (.fn f cs), H)
    | _ => none
  | .bin op q x y => (binA op q (x.ev σ) (y.ev σ)).map fun v => (v, H)
  | .un op x => (unA op (x.ev σ)).map fun v => (v, H)
  | .conv k x => match x.ev σ with
    | .c (.int _ n) => some (.c (.int k (k.wrap n)), H)
    | _ => none
  | .convBS x => match x.ev σ with
    | .c (.slice none _ _) => some (.c (.str .empty), H)
    | .c (.slice (some p) l _) => if l = 0 then some (.c (.str .empty), H) else match readCells H p l with
      | some cs => (bytesOfCells cs).map fun bs => (.c (.str ⟨bs.toArray⟩), H)
      | none => none
    | _ => none
  | .idxN len size x i => match x.ev σ, i.ev σ with
    | .agg cs, .c (.int _ n) => if 0 ≤ n ∧ n < len ∧ n.toNat * size + size ≤ cs.length then some (.agg ((cs.drop (n.toNat * size)).take size), H) else none
    | _, _ => none
  | .idx1 len x i => match x.ev σ, i.ev σ with
    | .agg cs, .c (.int _ n) => if 0 ≤ n ∧ n < len then (cs[n.toNat]?).map fun v => (.c v, H) else none
    | _, _ => none
  | .idxStr x i => match x.ev σ, i.ev σ with
    | .c (.str s), .c (.int _ n) => if 0 ≤ n then (s[n.toNat]?).map fun b => (.c (.int .u8 b.toNat), H) else none
    | _, _ => none
  | .idxA len size x i => match x.ev σ, i.ev σ with
    | .c (.ptr (some p)), .c (.int _ n) => if 0 ≤ n ∧ n < len then some (.c (.ptr (some (p.1, p.2 + n.toNat * size))), H) else none
    | _, _ => none
  | .idxS size x i => match x.ev σ, i.ev σ with
    | .c (.slice (some p) l _), .c (.int _ n) => if 0 ≤ n ∧ n < l then some (.c (.ptr (some (p.1, p.2 + n.toNat * size))), H) else none
    | _, _ => none
  | .fldA off x => match x.ev σ with
    | .c (.ptr (some p)) => some (.c (.ptr (some (p.1, p.2 + off))), H)
    | _ => none
  | .fldN off n x => match x.ev σ with
    | .agg cs => if off + n ≤ cs.length then some (.agg ((cs.drop off).take n), H) else none
    | _ => none
  | .fld1 off x => match x.ev σ with
    | .agg cs => (cs[off]?).map fun v => (.c v, H)
    | _ => none
  | .sliceS size x lo hi mx => match optInt σ lo, optInt σ hi, optInt σ mx with
    | some lo, some hi, some mx => (sliceA size (x.ev σ) lo hi mx).map fun v => (v, H)
    | _, _, _ => none
  | .sliceStr x lo hi => match optInt σ lo, optInt σ hi with
    | some lo, some hi => (sliceStrA (x.ev σ) lo hi).map fun v => (v, H)
    | _, _ => none
  | .mkSl e z bytes l c => match l.ev σ, c.ev σ with
    | .c (.int _ n), .c (.int _ m) => if 0 ≤ n ∧ n ≤ m ∧ m.toNat * bytes ≤ 140737488355328 ∧ 0 < bytes then
        some (.c (.slice (some (H.length, 0)) n.toNat (.exact m.toNat)), H ++ [some ⟨e, (List.replicate m.toNat z).flatten, .own⟩]) else none
    | _, _ => none
  | .mkFn f caps => (capsA σ caps).map fun l => (.c (.fn f l), H)
  | .ext x i => match x.ev σ with
    | .tup vs => (vs[i]?).map fun v => (v.toAV, H)
    | _ => none
  | .len str x => match str, x.ev σ with
    | false, .c (.slice _ l _) => some (.c (.int .i64 l), H)
    | true, .c (.str s) => some (.c (.int .i64 s.size), H)
    | _, _ => none
  | .lenA n => some (.c (.int .i64 n), H)
  | .app e size bytes x y => appendA H e size bytes (x.ev σ) (y.ev σ)
  | .min xs => match xs.map (Opd.ev σ) with
    | .c (.int k n) :: r => (minL n r k).map fun m => (.c (.int k m), H)
    | _ => none
  | .max xs => match xs.map (Opd.ev σ) with
    | .c (.int k n) :: r => (maxL n r k).map fun m => (.c (.int k m), H)
    | _ => none
  | .call f xs => match f.ev σ with
    | .c (.fn f caps) => call f (xs.map (Opd.ev σ) ++ caps.map fun p => .c (.ptr (some p))) H
    | _ => none

abbrev St := Sl × AHeap

/-- Is it to be carried out? -/
def wantA (σ : Sl) : Option (Nat × Bool) → Bool
  | none => true
  | some (j, want) => match σ j with
    | .c (.bool b) => b == want
    | _ => false

def evalKO (call : CallA) (o : KO) (s : St) : Option St :=
  if wantA s.1 o.g then (evalOp call s.1 s.2 o.op).map fun r => (putS s.1 o.dst r.1, r.2)
  else some (putS s.1 o.dst (.c .undef), s.2)

def evalOps (call : CallA) : List KO → St → Option St
  | [], s => some s
  | o :: r, s => (evalKO call o s).bind (evalOps call r)

inductive Ex where
  | norm | exit (id : Nat) | ret

def iter (f : St → Option (Ex × St)) : Nat → St → Option (Ex × St)
  | 0, _ => none
  | n + 1, s => match f s with
    | some (.norm, s') => iter f n s'
    | r => r

/-- Is what was read still there? -/
def rcOk (s : St) (o : KO) : Prop := wantA s.1 o.g = true → evalOp (fun _ _ _ => none) s.1 s.2 o.op = some (match o.dst with | some d => s.1 d | none => .c .undef, s.2)
open Classical in
/-- A region that draws its order: one order; what was read is read again where another order would read it. -/
noncomputable def evalDrawn (call : CallA) : List (KO × List KO) → St → Option St
  | [], s => some s
  | x :: r, s => (evalOps call [x.1] s).bind fun s' => if (∀ o ∈ x.2, rcOk s' o) then evalDrawn call r s' else none

noncomputable def evalC (call : CallA) (n : Nat) : KC → St → Option (Ex × St)
  | .skip, s => some (.norm, s)
  | .region ops, s => (evalOps call ops s).map fun s' => (.norm, s')
  | .drawn steps, s => (evalDrawn call steps s).map fun s' => (.norm, s')
  | .seq a b, s => match evalC call n a s with
    | some (.norm, s') => evalC call n b s'
    | r => r
  | .cond x a b, s => match x.ev s.1 with
    | .c (.bool t) => if t then evalC call n a s else evalC call n b s
    | _ => none
  | .block id c, s => match evalC call n c s with
    | some (.exit j, s') => if j = id then some (.norm, s') else some (.exit j, s')
    | r => r
  | .loop c, s => iter (evalC call n c) n s
  | .exit id, s => some (.exit id, s)
  | .ret, s => some (.ret, s)

def evalR (σ : Sl) (H : AHeap) : KR → Option V0
  | .tmp t => (σ t).toV0?
  | .cell1 t => match σ t with
    | .c (.ptr (some p)) => (readCell H p).map .c
    | _ => none
  | .cellN t n => match σ t with
    | .c (.ptr (some p)) => (readCells H p n).map .agg
    | _ => none
def evalRs (σ : Sl) (H : AHeap) : List KR → Option (List V0)
  | [] => some []
  | r :: rs => match evalR σ H r, evalRs σ H rs with
    | some v, some l => some (v :: l)
    | _, _ => none
def mkRes : List V0 → AV
  | [v] => v.toAV
  | vs => .tup vs

open Classical in
/-- What is dropped at a return: all new blocks, where nothing leads to them. -/
noncomputable def finish (gc : Bool) (H : AHeap) (v : AV) (H' : AHeap) : Option (AV × AHeap) :=
  if gc then
    if v.plain = true ∧ (∀ i blk, i < H.length → H'[i]? = some (some blk) → H[i]? = some (some blk) ∨ blk.cells.all (CV.validIn H.length) = true) then some (v, H'.take H.length) else none
  else some (v, H')

noncomputable def evalBody (call : CallA) (n : Nat) (kf : KF) (args : List AV) (H : AHeap) : Option (AV × AHeap) :=
  if args.length ≤ kf.np then
    match evalC call n kf.body (fun i => args.getD i (.c .undef), H) with
    | some (.norm, σ, H') | some (.ret, σ, H') => match evalRs σ H' kf.res with
      | some vs => finish kf.gc H (mkRes vs) H'
      | none => none
    | _ => none
  else none

noncomputable def evalF (K : FuncId → Option KF) : Nat → CallA
  | 0, _, _, _ => none
  | n + 1, f, args, H => match K f with
    | some kf => evalBody (evalF K n) (n + 1) kf args H
    | none => none

end Go.Proofs.Ytebdajfangbdpaa.VI
