/- An interpreter over an abstract heap, and its soundness over the machine: part Comp. -/
import Derived.Test.YtebdajfangbdpaaViHeap
set_option linter.unusedVariables false
set_option linter.unusedSimpArgs false
set_option linter.unusedSectionVars false
namespace Go.Proofs.Ytebdajfangbdpaa.VI
open Go Go.RowKit

def constC : Value → Option CV
  | .int k n => some (.int k n)
  | .bool b => some (.bool b)
  | .string s => some (.str s)
  | .pointer none => some (.ptr none)
  | .slice none 0 0 => some (.slice none 0 (.exact 0))
  | _ => none
def constCs : List Value → Option (List CV)
  | [] => some []
  | v :: r => match constC v, constCs r with
    | some c, some l => some (c :: l)
    | _, _ => none
def constA : Value → Option AV
  | .agg cs => (constCs cs.toList).map .agg
  | v => (constC v).map .c
def cOpd : Operand → Option Opd
  | .tmp t => some (.t t)
  | .const v => (constA v).map .k
  | .func f => some (.k (.c (.fn f [])))
  | .global _ => none
def cOpds : List Operand → Option (List Opd)
  | [] => some []
  | x :: r => match cOpd x, cOpds r with
    | some c, some l => some (c :: l)
    | _, _ => none
def cOpt : Option Operand → Option (Option Opd)
  | none => some none
  | some x => (cOpd x).map some

/-- A type's zero value's cells. -/
def zeroC (P : Program) (t : TypeId) : Option (List CV) :=
  match P.info? t with
  | some i => match i.zero with
    | some v => constCs v.cells.toList
    | none => none
  | none => none
def sizeC (P : Program) (t : TypeId) : Option Nat := (P.info? t).map (·.size)
def isAggC (P : Program) (t : TypeId) : Option Bool :=
  match P.underlying t with
  | some (.struct _) | some (.array _ _) => some true
  | some _ => some false
  | none => none

def partsC (place : Nat → Option (Nat × Nat)) : List (Nat × Operand) → Option (List (Nat × Nat × Opd))
  | [] => some []
  | (i, x) :: r => match place i, cOpd x, partsC place r with
    | some (o, n), some y, some l => some ((o, n, y) :: l)
    | _, _, _ => none
def fieldPlaces (P : Program) : List Field → Option (List (Nat × Nat))
  | [] => some []
  | f :: r => match sizeC P f.type, fieldPlaces P r with
    | some n, some l => some ((f.offset, n) :: l)
    | _, _ => none

/-- What an equality of fields asks: 'rec': of a type. -/
def eqFs (P : Program) (rec : TypeId → Option (List EqK)) : Nat → List Field → Option (List EqK)
  | _, [] => some []
  | off, f :: r => if f.name = "_" ∨ f.offset ≠ off then none else match rec f.type, isAggC P f.type, sizeC P f.type with
    | some l, some _, some s => if l.length = s then (eqFs P rec (off + s) r).map (l ++ ·) else none
    | _, _, _ => none
/-- What an equality of this type asks of its cells. -/
def eqK (P : Program) : Nat → TypeId → Option (List EqK)
  | 0, _ => none
  | d + 1, t => match P.underlying t with
    | some .bool => some [.bool]
    | some (.int _) => some [.int]
    | some .string => some [.str]
    | some (.array n e) => match eqK P d e, sizeC P e, isAggC P e with
      | some l, some s, some _ => if l.length = s then some (List.replicate n l).flatten else none
      | _, _, _ => none
    | some (.struct fs) => if P.stoodInHeld t then none else eqFs P (eqK P d) 0 fs.toList
    | _ => none

def cBinK (P : Program) (t : TypeId) : EqK :=
  match P.underlying t with
  | some .bool => .bool
  | some (.int _) => .int
  | some .string => .str
  | some (.slice _) => .slice
  | some (.pointer _) => .ptr
  | some (.array _ _) | some (.struct _) => if P.eqGuardType P.depth t then .other else match eqK P 9 t with
    | some l => .agg l
    | none => .other
  | _ => .other

def cSlot (ops : Array Oper) (j : Nat) : Option Nat := (ops[j]?).bind (·.dst)

def cOp (P : Program) : Op → Option KOp
  | .move x | .assign x => (cOpd x).map .mov
  | .pick c a b => match cOpd c, cOpd a, cOpd b with
    | some c, some a, some b => some (.pick c a b)
    | _, _, _ => none
  | .alloc e => (zeroC P e).map (.alloc e)
  | .box e x => (cOpd x).map (.box e)
  | .build t parts => match zeroC P t, P.underlying t with
    | some z, some (.struct fs) => match fieldPlaces P fs.toList with
      | some pl => (partsC (pl[·]?) parts.toList).map (.build z)
      | none => none
    | some z, some (.array _ e) => match sizeC P e with
      | some s => (partsC (fun i => some (i * s, s)) parts.toList).map (.build z)
      | none => none
    | _, _ => none
  | .buildSlice t len parts => match P.underlying t with
    | some (.slice e) => match zeroC P e, sizeC P e with
      | some z, some s => if z.length = s ∧ len * s ≤ 2 ^ 24 then (partsC (fun i => some (i * s, s)) parts.toList).map (.buildSl e len (List.replicate len z).flatten) else none
      | _, _ => none
    | _ => none
  | .load t a => match isAggC P t, sizeC P t, cOpd a with
    | some true, some n, some a => some (.loadN n a)
    | some false, _, some a => some (.load1 a)
    | _, _, _ => none
  | .store t a x => match sizeC P t, cOpd a, cOpd x with
    | some n, some a, some x => some (.store n a x)
    | _, _, _ => none
  | .nilCheck x => (cOpd x).map .nilchk
  | .binOp op t x y _ => match cOpd x, cOpd y with
    | some x, some y => some (.bin op (cBinK P t) x y)
    | _, _ => none
  | .unOp op _ x => (cOpd x).map (.un op)
  | .convert src dst x => match P.underlying src, P.underlying dst, cOpd x with
    | some (.int _), some (.int k), some x => some (.conv k x)
    | some (.slice e), some .string, some x => match P.underlying e with
      | some (.int .u8) => some (.convBS x)
      | _ => none
    | _, _, _ => none
  | .index t x i => match P.underlying t, cOpd x, cOpd i with
    | some (.array n e), some x, some i => match isAggC P e, sizeC P e with
      | some true, some s => some (.idxN n s x i)
      | some false, some 1 => some (.idx1 n x i)
      | _, _ => none
    | some .string, some x, some i => some (.idxStr x i)
    | _, _, _ => none
  | .indexAddr t x i => match P.underlying t, cOpd x, cOpd i with
    | some (.array n e), some x, some i => (sizeC P e).map fun s => .idxA n s x i
    | some (.slice e), some x, some i => (sizeC P e).map fun s => .idxS s x i
    | _, _, _ => none
  | .fieldAddr t x f => match P.underlying t, cOpd x with
    | some (.struct fs), some x => match fs[f]? with
      | some fd => match sizeC P fd.type with
        | some (_ + 1) => some (.fldA fd.offset x)
        | _ => none
      | none => none
    | _, _ => none
  | .field t x f => match P.underlying t, cOpd x with
    | some (.struct fs), some x => match fs[f]? with
      | some fd => match isAggC P fd.type, sizeC P fd.type with
        | some true, some n => some (.fldN fd.offset n x)
        | some false, some _ => some (.fld1 fd.offset x)
        | _, _ => none
      | none => none
    | _, _ => none
  | .slice t x lo hi mx => match P.underlying t, cOpd x, cOpt lo, cOpt hi, cOpt mx with
    | some (.slice e), some x, some lo, some hi, some mx => (sizeC P e).map fun s => .sliceS s x lo hi mx
    | some .string, some x, some lo, some hi, some none => some (.sliceStr x lo hi)
    | _, _, _, _, _ => none
  | .makeSlice t l c => match P.underlying t, cOpd l, cOpd c with
    | some (.slice e), some l, some c => match zeroC P e, P.info? e with
      | some z, some i => if z.length = i.size ∧ 0 < i.size then some (.mkSl e z i.bytes l c) else none
      | _, _ => none
    | _, _, _ => none
  | .makeFunc (.func f) first captured => if first.isEmpty then (cOpds captured.toList).map (.mkFn f) else none
  | .extract t ix => (cOpd t).map fun x => .ext x ix
  | .call c => match c.callee with
    | .value f => match cOpd f, cOpds c.args.toList with
      | some f, some xs => some (.call f xs)
      | _, _ => none
    | .builtin .len => match c.argTypes[0]?, c.args[0]? with
      | some t, some x => match P.underlying t, cOpd x with
        | some .string, some x => some (.len true x)
        | some (.slice _), some x => some (.len false x)
        | some (.array n _), some _ => some (.lenA n)
        | _, _ => none
      | _, _ => none
    | .builtin .append => match c.argTypes[0]?, c.argTypes[1]?, c.args.toList with
      | some t, some t2, [x, y] => match P.underlying t, P.underlying t2, cOpd x, cOpd y with
        | some (.slice e), some (.slice _), some x, some y | some (.slice e), some .string, some x, some y => match zeroC P e, P.info? e with
          | some z, some i => if z.length = i.size ∧ 0 < i.bytes ∧ 0 < i.size then some (.app e i.size i.bytes x y) else none
          | _, _ => none
        | _, _, _, _ => none
      | _, _, _ => none
    | .builtin .min => (cOpds c.args.toList).map .min
    | .builtin .max => (cOpds c.args.toList).map .max
    | _ => none
  | _ => none

def dstOk (n : Nat) : Option Tmp → Bool
  | some d => decide (d < n)
  | none => true
def cOper (P : Program) (n : Nat) (ops : Array Oper) (o : Oper) : Option KO :=
  if dstOk n o.dst = true then
    match cOp P o.op with
    | some k => match o.guard with
      | none => some ⟨o.dst, k, none⟩
      | some (j, want) => (cSlot ops j).map fun s => ⟨o.dst, k, some (s, want)⟩
    | none => none
  else none



def cOpers (P : Program) (n : Nat) (ops : Array Oper) : List Oper → Option (List KO)
  | [] => some []
  | o :: r => match cOper P n ops o, cOpers P n ops r with
    | some k, some l => some (k :: l)
    | _, _ => none

/-! ### A region that draws its order -/
inductive Kind where
  | A | H | L | P
/-- A: makes a block out of its slots; H: calls, writes; L: reads memory; P: looks at its slots alone. -/
def KOp.kind : KOp → Kind
  | .alloc _ _ | .box _ _ | .buildSl _ _ _ _ => .A
  | .store _ _ _ | .mkSl _ _ _ _ _ | .app _ _ _ _ _ | .call _ _ => .H
  | .load1 _ | .loadN _ _ | .convBS _ => .L
  | _ => .P
def Kind.isE : Kind → Bool
  | .A | .H => true
  | _ => false
def Kind.isA : Kind → Bool
  | .A => true
  | _ => false
def Kind.isH : Kind → Bool
  | .H => true
  | _ => false
def Kind.isL : Kind → Bool
  | .L => true
  | _ => false
def Opd.lk : Opd → List Nat
  | .t n => [n]
  | .k _ => []
def lkO : Option Opd → List Nat
  | some x => x.lk
  | none => []
def lks (l : List Opd) : List Nat := l.flatMap Opd.lk
def lkParts (l : List (Nat × Nat × Opd)) : List Nat := l.flatMap fun p => p.2.2.lk
/-- The slots that are looked at. -/
def KOp.lk : KOp → List Nat
  | .mov x => x.lk
  | .pick c a b => c.lk ++ (a.lk ++ b.lk)
  | .alloc _ _ => []
  | .box _ x => x.lk
  | .build _ p => lkParts p
  | .buildSl _ _ _ p => lkParts p
  | .load1 a => a.lk
  | .loadN _ a => a.lk
  | .store _ a x => a.lk ++ x.lk
  | .nilchk x => x.lk
  | .bin _ _ x y => x.lk ++ y.lk
  | .un _ x => x.lk
  | .conv _ x => x.lk
  | .convBS x => x.lk
  | .idxN _ _ x i => x.lk ++ i.lk
  | .idx1 _ x i => x.lk ++ i.lk
  | .idxStr x i => x.lk ++ i.lk
  | .idxA _ _ x i => x.lk ++ i.lk
  | .idxS _ x i => x.lk ++ i.lk
  | .fldA _ x => x.lk
  | .fldN _ _ x => x.lk
  | .fld1 _ x => x.lk
  | .sliceS _ x a b c => x.lk ++ (lkO a ++ (lkO b ++ lkO c))
  | .sliceStr x a b => x.lk ++ (lkO a ++ lkO b)
  | .mkSl _ _ _ l c => l.lk ++ c.lk
  | .mkFn _ c => lks c
  | .ext x _ => x.lk
  | .len _ x => x.lk
  | .lenA _ => []
  | .app _ _ _ x y => x.lk ++ y.lk
  | .min xs => lks xs
  | .max xs => lks xs
  | .call f xs => f.lk ++ lks xs
def KO.lk (o : KO) : List Nat := (match o.g with | some (j, _) => [j] | none => []) ++ o.op.lk

def depsO (o : Oper) : List Nat := (o.after.toList.filter (Region.binds .any ·)).map (·.on)
def maskOf (acc : List Nat) (ds : List Nat) : Nat := ds.foldl (fun m d => m ||| 2 ^ d ||| acc.getD d 0) 0
/-- Of each operation: those that it waits for, by bits. -/
def ancsOf (l : List Oper) : List Nat := l.foldl (fun acc o => acc ++ [maskOf acc (depsO o)]) []

/-- A region to be told. -/
structure Rg where
  ops : Array Oper
  ks : List KO
  an : List Nat
  s : List Nat
namespace Rg
def N (r : Rg) : Nat := r.ops.size
def oper (r : Rg) (i : Nat) : Oper := r.ops.getD i default
def ko (r : Rg) (i : Nat) : KO := r.ks.getD i ⟨none, .lenA 0, none⟩
def kind (r : Rg) (i : Nat) : Kind := (r.ko i).op.kind
def deps (r : Rg) (i : Nat) : List Nat := depsO (r.oper i)
def lk (r : Rg) (i : Nat) : List Nat := (r.ko i).lk ++ (r.oper i).looksAt r.ops
/-- i waits for j's sake. -/
def lt (r : Rg) (i j : Nat) : Bool := (r.an.getD j 0).testBit i
def dst (r : Rg) (i : Nat) : Option Nat := (r.ko i).dst
def looksA (r : Rg) (i : Nat) : Bool := (List.range r.N).any fun k => (r.kind k).isA && (match r.dst k with | some t => (r.lk i).contains t | none => false)
def sync (r : Rg) (i : Nat) : Bool := (r.kind i).isH || (r.kind i).isL || r.looksA i
def ix (r : Rg) (p : Nat) : Nat := r.s.getD p 0
def ok (r : Rg) : Bool :=
  (r.s.length == r.N && (List.range r.N).all fun i => r.s.contains i) &&
  ((List.range r.N).all fun p => decide (r.ix p < r.N) && !(r.s.take p).contains (r.ix p) && (r.deps (r.ix p)).all fun d => (r.s.take p).contains d) &&
  ((List.range r.N).all fun p => !r.sync (r.ix p) || (r.s.take p).all fun q => !(r.kind q).isE || r.lt q (r.ix p)) &&
  ((List.range r.N).all fun i => (List.range r.N).all fun k => match r.dst k with
    | none => true
    | some t => (i == k || r.dst i != some t) && (!(r.lk i).contains t || (if i = k then !(r.kind i).isL else r.lt k i || (r.lt i k && !(r.kind i).isL)))) &&
  ((List.range r.N).all fun i => !(r.kind i).isL || (r.dst i).isSome)
def step (r : Rg) (p : Nat) : KO × List KO :=
  (r.ko (r.ix p), if (r.kind (r.ix p)).isE then ((r.s.take p).filter fun l => (r.kind l).isL && !r.lt l (r.ix p)).map r.ko else [])
def steps (r : Rg) : List (KO × List KO) := (List.range r.N).map r.step

/-- An order: what only looks, first; what makes a block, last. -/
def pickNext (r : Rg) (pre rem : List Nat) : Option Nat :=
  let ready := rem.filter fun i => (r.deps i).all fun d => pre.contains d
  match ready.find? fun i => !(r.kind i).isE with
  | some i => some i
  | none => match ready.find? fun i => (r.kind i).isH with
    | some i => some i
    | none => match rem.find? fun i => (r.kind i).isH with
      | some h => match ready.find? fun i => r.lt i h with
        | some i => some i
        | none => ready.head?
      | none => ready.head?
def order (r : Rg) : Nat → List Nat → List Nat → List Nat
  | 0, pre, _ => pre
  | f + 1, pre, rem => match r.pickNext pre rem with
    | some i => r.order f (pre ++ [i]) (rem.filter fun j => j != i)
    | none => pre
end Rg

def cDrawn (P : Program) (n : Nat) (ops : Array Oper) : Option KC :=
  match cOpers P n ops ops.toList with
  | some ks =>
    let r0 : Rg := ⟨ops, ks, ancsOf ops.toList, []⟩
    let r : Rg := { r0 with s := r0.order ops.size [] (List.range ops.size) }
    if r.ok = true then some (.drawn r.steps) else none
  | none => none

def cCode (P : Program) (n : Nat) : Code → Option KC
  | .skip => some .skip
  | .region _ ops false => (cOpers P n ops ops.toList).map .region
  | .region _ ops true => cDrawn P n ops
  | .seq a b => match cCode P n a, cCode P n b with
    | some a, some b => some (.seq a b)
    | _, _ => none
  | .cond c a b => match cOpd c, cCode P n a, cCode P n b with
    | some c, some a, some b => some (.cond c a b)
    | _, _, _ => none
  | .block id c => (cCode P n c).map (.block id)
  | .loop c => (cCode P n c).map .loop
  | .exit id => some (.exit id)
  | .ret => some .ret
  | _ => none

def cRes (P : Program) : List ResultVar → Option (List KR)
  | [] => some []
  | .tmp t :: r => (cRes P r).map (.tmp t :: ·)
  | .cell t ty :: r => match isAggC P ty, sizeC P ty, cRes P r with
    | some true, some n, some l => some (.cellN t n :: l)
    | some false, some _, some l => some (.cell1 t :: l)
    | _, _, _ => none

def cFunc (P : Program) (gc : Bool) (f : FuncId) : Option KF :=
  match P.funcs[f]? with
  | some fn => if fn.name == "runtime.NumGoroutine" then none else match fn.body with
    | some c => match cCode P fn.ntmps c, cRes P fn.results.toList with
      | some k, some r => some ⟨fn.ntmps, k, r, gc⟩
      | _, _ => none
    | none => none
  | none => none

end Go.Proofs.Ytebdajfangbdpaa.VI
