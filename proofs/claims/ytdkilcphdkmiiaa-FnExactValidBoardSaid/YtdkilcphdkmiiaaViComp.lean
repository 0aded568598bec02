/- An interpreter over an abstract heap, and its soundness over the machine: part Comp. -/
import Derived.Test.YtdkilcphdkmiiaaViHeap
set_option linter.unusedVariables false
set_option linter.unusedSimpArgs false
namespace Go.Proofs.Ytdkilcphdkmiiaa.VI
open Go Go.RowKit

def constC : Value → Option CV
  | .int k n => some (.int k n)
  | .bool b => some (.bool b)
  | .string s => some (.str s)
  | .pointer none => some (.ptr none)
  | .slice none 0 0 => some (.slice none 0 (.exact 0))
  | _ => none
def constCs : List Value → Option (List CV)
  | [] => some []
  | v :: r => match constC v, constCs r with
    | some c, some l => some (c :: l)
    | _, _ => none
def constA : Value → Option AV
  | .agg cs => (constCs cs.toList).map .agg
  | v => (constC v).map .c
def cOpd : Operand → Option Opd
  | .tmp t => some (.t t)
  | .const v => (constA v).map .k
  | .func f => some (.k (.c (.fn f [])))
  | .global _ => none
def cOpds : List Operand → Option (List Opd)
  | [] => some []
  | x :: r => match cOpd x, cOpds r with
    | some c, some l => some (c :: l)
    | _, _ => none
def cOpt : Option Operand → Option (Option Opd)
  | none => some none
  | some x => (cOpd x).map some

/-- A type's zero value's cells. -/
def zeroC (P : Program) (t : TypeId) : Option (List CV) :=
  match P.info? t with
  | some i => match i.zero with
    | some v => constCs v.cells.toList
    | none => none
  | none => none
def sizeC (P : Program) (t : TypeId) : Option Nat := (P.info? t).map (·.size)
def isAggC (P : Program) (t : TypeId) : Option Bool :=
  match P.underlying t with
  | some (.struct _) | some (.array _ _) => some true
  | some _ => some false
  | none => none

def partsC (place : Nat → Option (Nat × Nat)) : List (Nat × Operand) → Option (List (Nat × Nat × Opd))
  | [] => some []
  | (i, x) :: r => match place i, cOpd x, partsC place r with
    | some (o, n), some y, some l => some ((o, n, y) :: l)
    | _, _, _ => none
def fieldPlaces (P : Program) : List Field → Option (List (Nat × Nat))
  | [] => some []
  | f :: r => match sizeC P f.type, fieldPlaces P r with
    | some n, some l => some ((f.offset, n) :: l)
    | _, _ => none

/-- What an equality of fields asks: 'rec': of a type. -/
def eqFs (P : Program) (rec : TypeId → Option (List EqK)) : Nat → List Field → Option (List EqK)
  | _, [] => some []
  | off, f :: r => if f.name = "_" ∨ f.offset ≠ off then none else match rec f.type, isAggC P f.type, sizeC P f.type with
    | some l, some _, some s => if l.length = s then (eqFs P rec (off + s) r).map (l ++ ·) else none
    | _, _, _ => none
/-- What an equality of this type asks of its cells. -/
def eqK (P : Program) : Nat → TypeId → Option (List EqK)
  | 0, _ => none
  | d + 1, t => match P.underlying t with
    | some .bool => some [.bool]
    | some (.int _) => some [.int]
    | some .string => some [.str]
    | some (.array n e) => match eqK P d e, sizeC P e, isAggC P e with
      | some l, some s, some _ => if l.length = s then some (List.replicate n l).flatten else none
      | _, _, _ => none
    | some (.struct fs) => if P.stoodInHeld t then none else eqFs P (eqK P d) 0 fs.toList
    | _ => none

def cBinK (P : Program) (t : TypeId) : EqK :=
  match P.underlying t with
  | some .bool => .bool
  | some (.int _) => .int
  | some .string => .str
  | some (.slice _) => .slice
  | some (.pointer _) => .ptr
  | some (.array _ _) | some (.struct _) => if P.eqGuardType P.depth t then .other else match eqK P 9 t with
    | some l => .agg l
    | none => .other
  | _ => .other

def cSlot (ops : Array Oper) (j : Nat) : Option Nat := (ops[j]?).bind (·.dst)

def cOp (P : Program) : Op → Option KOp
  | .move x | .assign x => (cOpd x).map .mov
  | .pick c a b => match cOpd c, cOpd a, cOpd b with
    | some c, some a, some b => some (.pick c a b)
    | _, _, _ => none
  | .alloc e => (zeroC P e).map (.alloc e)
  | .box e x => (cOpd x).map (.box e)
  | .build t parts => match zeroC P t, P.underlying t with
    | some z, some (.struct fs) => match fieldPlaces P fs.toList with
      | some pl => (partsC (pl[·]?) parts.toList).map (.build z)
      | none => none
    | some z, some (.array _ e) => match sizeC P e with
      | some s => (partsC (fun i => some (i * s, s)) parts.toList).map (.build z)
      | none => none
    | _, _ => none
  | .buildSlice t len parts => match P.underlying t with
    | some (.slice e) => match zeroC P e, sizeC P e with
      | some z, some s => if z.length = s ∧ len * s ≤ 2 ^ 24 then (partsC (fun i => some (i * s, s)) parts.toList).map (.buildSl e len (List.replicate len z).flatten) else none
      | _, _ => none
    | _ => none
  | .load t a => match isAggC P t, sizeC P t, cOpd a with
    | some true, some n, some a => some (.loadN n a)
    | some false, _, some a => some (.load1 a)
    | _, _, _ => none
  | .store t a x => match sizeC P t, cOpd a, cOpd x with
    | some n, some a, some x => some (.store n a x)
    | _, _, _ => none
  | .nilCheck x => (cOpd x).map .nilchk
  | .binOp op t x y _ => match cOpd x, cOpd y with
    | some x, some y => some (.bin op (cBinK P t) x y)
    | _, _ => none
  | .unOp op _ x => (cOpd x).map (.un op)
  | .convert src dst x => match P.underlying src, P.underlying dst, cOpd x with
    | some (.int _), some (.int k), some x => some (.conv k x)
    | some (.slice e), some .string, some x => match P.underlying e with
      | some (.int .u8) => some (.convBS x)
      | _ => none
    | _, _, _ => none
  | .index t x i => match P.underlying t, cOpd x, cOpd i with
    | some (.array n e), some x, some i => match isAggC P e, sizeC P e with
      | some true, some s => some (.idxN n s x i)
      | some false, some 1 => some (.idx1 n x i)
      | _, _ => none
    | some .string, some x, some i => some (.idxStr x i)
    | _, _, _ => none
  | .indexAddr t x i => match P.underlying t, cOpd x, cOpd i with
    | some (.array n e), some x, some i => (sizeC P e).map fun s => .idxA n s x i
    | some (.slice e), some x, some i => (sizeC P e).map fun s => .idxS s x i
    | _, _, _ => none
  | .fieldAddr t x f => match P.underlying t, cOpd x with
    | some (.struct fs), some x => match fs[f]? with
      | some fd => match sizeC P fd.type with
        | some (_ + 1) => some (.fldA fd.offset x)
        | _ => none
      | none => none
    | _, _ => none
  | .field t x f => match P.underlying t, cOpd x with
    | some (.struct fs), some x => match fs[f]? with
      | some fd => match isAggC P fd.type, sizeC P fd.type with
        | some true, some n => some (.fldN fd.offset n x)
        | some false, some _ => some (.fld1 fd.offset x)
        | _, _ => none
      | none => none
    | _, _ => none
  | .slice t x lo hi mx => match P.underlying t, cOpd x, cOpt lo, cOpt hi, cOpt mx with
    | some (.slice e), some x, some lo, some hi, some mx => (sizeC P e).map fun s => .sliceS s x lo hi mx
    | some .string, some x, some lo, some hi, some none => some (.sliceStr x lo hi)
    | _, _, _, _, _ => none
  | .makeSlice t l c => match P.underlying t, cOpd l, cOpd c with
    | some (.slice e), some l, some c => match zeroC P e, P.info? e with
      | some z, some i => if z.length = i.size ∧ 0 < i.size then some (.mkSl e z i.bytes l c) else none
      | _, _ => none
    | _, _, _ => none
  | .makeFunc (.func f) first captured => if first.isEmpty then (cOpds captured.toList).map (.mkFn f) else none
  | .extract t ix => (cOpd t).map fun x => .ext x ix
  | .call c => match c.callee with
    | .value f => match cOpd f, cOpds c.args.toList with
      | some f, some xs => some (.call f xs)
      | _, _ => none
    | .builtin .len => match c.argTypes[0]?, c.args[0]? with
      | some t, some x => match P.underlying t, cOpd x with
        | some .string, some x => some (.len true x)
        | some (.slice _), some x => some (.len false x)
        | some (.array n _), some _ => some (.lenA n)
        | _, _ => none
      | _, _ => none
    | .builtin .append => match c.argTypes[0]?, c.argTypes[1]?, c.args.toList with
      | some t, some t2, [x, y] => match P.underlying t, P.underlying t2, cOpd x, cOpd y with
        | some (.slice e), some (.slice _), some x, some y | some (.slice e), some .string, some x, some y => match zeroC P e, P.info? e with
          | some z, some i => if z.length = i.size ∧ 0 < i.bytes ∧ 0 < i.size then some (.app e i.size i.bytes x y) else none
          | _, _ => none
        | _, _, _, _ => none
      | _, _, _ => none
    | .builtin .min => (cOpds c.args.toList).map .min
    | .builtin .max => (cOpds c.args.toList).map .max
    | _ => none
  | _ => none

def dstOk (n : Nat) : Option Tmp → Bool
  | some d => decide (d < n)
  | none => true
def cOper (P : Program) (n : Nat) (ops : Array Oper) (o : Oper) : Option KO :=
  if dstOk n o.dst = true then
    match cOp P o.op with
    | some k => match o.guard with
      | none => some ⟨o.dst, k, none⟩
      | some (j, want) => (cSlot ops j).map fun s => ⟨o.dst, k, some (s, want)⟩
    | none => none
  else none



def cOpers (P : Program) (n : Nat) (ops : Array Oper) : List Oper → Option (List KO)
  | [] => some []
  | o :: r => match cOper P n ops o, cOpers P n ops r with
    | some k, some l => some (k :: l)
    | _, _ => none

/-- The order in which a drawn region is told: elsewhere. -/
def cDrawn (P : Program) (n : Nat) (ops : Array Oper) : Option KC := none

def cCode (P : Program) (n : Nat) : Code → Option KC
  | .skip => some .skip
  | .region _ ops false => (cOpers P n ops ops.toList).map .region
  | .region _ ops true => cDrawn P n ops
  | .seq a b => match cCode P n a, cCode P n b with
    | some a, some b => some (.seq a b)
    | _, _ => none
  | .cond c a b => match cOpd c, cCode P n a, cCode P n b with
    | some c, some a, some b => some (.cond c a b)
    | _, _, _ => none
  | .block id c => (cCode P n c).map (.block id)
  | .loop c => (cCode P n c).map .loop
  | .exit id => some (.exit id)
  | .ret => some .ret
  | _ => none

def cRes (P : Program) : List ResultVar → Option (List KR)
  | [] => some []
  | .tmp t :: r => (cRes P r).map (.tmp t :: ·)
  | .cell t ty :: r => match isAggC P ty, sizeC P ty, cRes P r with
    | some true, some n, some l => some (.cellN t n :: l)
    | some false, some _, some l => some (.cell1 t :: l)
    | _, _, _ => none

def cFunc (P : Program) (gc : Bool) (f : FuncId) : Option KF :=
  match P.funcs[f]? with
  | some fn => if fn.name == "runtime.NumGoroutine" then none else match fn.body with
    | some c => match cCode P fn.ntmps c, cRes P fn.results.toList with
      | some k, some r => some ⟨fn.ntmps, k, r, gc⟩
      | _, _ => none
    | none => none
  | none => none

end Go.Proofs.Ytdkilcphdkmiiaa.VI
