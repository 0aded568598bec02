/- An interpreter over an abstract heap, and its soundness over the machine: part A. -/
import Derived.Calls
import Derived.LoopN
import Derived.Orders
import Derived.Below
import Derived.Laws.Sem
import Derived.Laws.World
import Derived.Deep.Draws
set_option linter.unusedVariables false
set_option linter.unusedSimpArgs false
set_option linter.unusedSectionVars false
namespace Go.Proofs.YtmockobmiagbcaaDoor.VI
open Go Go.RowKit

/-! ### Values of the abstract machine: blocks are told by ids -/

/-- What is known of a slice's capacity: the number; that it goes to its block's end (the element's cells); nothing. -/
inductive Cap where
  | exact (k : Nat)
  | toEnd (size : Nat)
  | any

inductive CV where
  | int (k : IntKind) (n : Int)
  | bool (b : Bool)
  | str (s : ByteArray)
  | ptr (a : Option (Nat × Nat))
  | slice (a : Option (Nat × Nat)) (len : Nat) (cap : Cap)
  | fn (f : FuncId) (caps : List (Nat × Nat))
  | undef
instance : Inhabited CV := ⟨.undef⟩

inductive V0 where
  | c (v : CV)
  | agg (cs : List CV)

inductive AV where
  | c (v : CV)
  | agg (cs : List CV)
  | tup (vs : List V0)
instance : Inhabited AV := ⟨.c .undef⟩

def V0.toAV : V0 → AV
  | .c v => .c v
  | .agg cs => .agg cs
def AV.toV0? : AV → Option V0
  | .c v => some (.c v)
  | .agg cs => some (.agg cs)
  | .tup _ => none
def AV.cells? : AV → Option (List CV)
  | .c v => some [v]
  | .agg cs => some cs
  | .tup _ => none

abbrev AV.i64 (n : Int) : AV := .c (.int .i64 n)
abbrev AV.b (x : Bool) : AV := .c (.bool x)

/-! ### The abstract heap -/
inductive BM where
  | ro | own | opn
structure Blk where
  e : TypeId
  cells : List CV
  m : BM
abbrev AHeap := List (Option Blk)
def AHeap.get (H : AHeap) (i : Nat) : Option Blk := (H[i]?).join

/-! ### The relation between abstract and concrete values -/
/-- Of each id: the block, where it begins in it, and how many cells the block has. -/
abbrev Beta := List (Nat × Nat × Nat)

def AddrRel (β : Beta) (p : Nat × Nat) (a : Addr) : Prop := ∃ b o k, β[p.1]? = some (b, o, k) ∧ a = ⟨b, o + p.2, none⟩

/-- Does the address of such a slice count? -/
def needsAddr (l : Nat) : Cap → Bool
  | .exact k => decide (0 < l) || decide (0 < k)
  | .toEnd _ => true
  | .any => decide (0 < l)
def CapRel (β : Beta) (p : Nat × Nat) (c : Nat) : Cap → Prop
  | .exact k => c = k
  | .toEnd sz => ∃ b o k, β[p.1]? = some (b, o, k) ∧ p.2 + c * sz = k
  | .any => True

def CV.rel (β : Beta) : CV → Value → Prop
  | .int k n, v => v = .int k n
  | .bool b, v => v = .bool b
  | .str s, v => v = .string s
  | .ptr none, v => v = .pointer none
  | .ptr (some p), v => ∃ a, AddrRel β p a ∧ v = .pointer (some a)
  | .slice none l _, v => l = 0 ∧ v = .slice none 0 0
  | .slice (some p) l cap, v => ∃ a c, (needsAddr l cap = true → AddrRel β p a) ∧ (needsAddr l cap = true → a.spot = none) ∧ v = .slice (some a) l c ∧ l ≤ c ∧ CapRel β p c cap
  | .fn f caps, v => ∃ cs : List Value, v = .func (.func f) #[] cs.toArray ∧ cs.length = caps.length ∧ ∀ (j : Nat) (p : Nat × Nat), caps[j]? = some p → ∃ a : Addr, AddrRel β p a ∧ cs[j]? = some (Value.pointer (some a))
  | .undef, v => v = Go.undef

/-- Cell by cell. -/
def Cells (β : Beta) (cs : List CV) (xs : List Value) : Prop := cs.length = xs.length ∧ ∀ (j : Nat) (c : CV), cs[j]? = some c → ∃ x, xs[j]? = some x ∧ c.rel β x

def V0.rel (β : Beta) : V0 → Value → Prop
  | .c v, x => v.rel β x
  | .agg cs, x => ∃ xs : List Value, x = .agg xs.toArray ∧ Cells β cs xs

def AV.rel (β : Beta) : AV → Value → Prop
  | .c v, x => v.rel β x
  | .agg cs, x => ∃ xs : List Value, x = .agg xs.toArray ∧ Cells β cs xs
  | .tup vs, x => ∃ xs : List Value, x = .tuple xs.toArray ∧ vs.length = xs.length ∧ ∀ (j : Nat) (v : V0), vs[j]? = some v → ∃ y, xs[j]? = some y ∧ v.rel β y

/-! Extending the map -/
def Ext (β β' : Beta) : Prop := ∃ t, β' = β ++ t
theorem Ext.refl (β : Beta) : Ext β β := ⟨[], by simp⟩
theorem Ext.trans {a b c : Beta} (h : Ext a b) (k : Ext b c) : Ext a c := by
  obtain ⟨t, rfl⟩ := h; obtain ⟨s, rfl⟩ := k; exact ⟨t ++ s, by simp⟩
theorem Ext.get {a b : Beta} (h : Ext a b) {i : Nat} {x : Nat × Nat × Nat} (k : a[i]? = some x) : b[i]? = some x := by
  obtain ⟨t, rfl⟩ := h
  have : i < a.length := (List.getElem?_eq_some_iff.1 k).1
  rw [List.getElem?_append_left this]; exact k
theorem Ext.len {a b : Beta} (h : Ext a b) : a.length ≤ b.length := by obtain ⟨t, rfl⟩ := h; simp
theorem Ext.get_lt {a b : Beta} (h : Ext a b) {i : Nat} (hi : i < a.length) : b[i]? = a[i]? := by
  obtain ⟨t, rfl⟩ := h; exact List.getElem?_append_left hi
theorem AddrRel.ext {β β' : Beta} (h : Ext β β') {p : Nat × Nat} {a : Addr} (k : AddrRel β p a) : AddrRel β' p a := by
  obtain ⟨b, o, n, h1, h2⟩ := k; exact ⟨b, o, n, h.get h1, h2⟩
theorem CapRel.ext {β β' : Beta} (h : Ext β β') {p : Nat × Nat} {c : Nat} {cap : Cap} (k : CapRel β p c cap) : CapRel β' p c cap := by
  cases cap with
  | toEnd sz => obtain ⟨b, o, n, h1, h2⟩ := k; exact ⟨b, o, n, h.get h1, h2⟩
  | _ => exact k
theorem CV.rel_ext {β β' : Beta} (h : Ext β β') {v : CV} {x : Value} (k : v.rel β x) : v.rel β' x := by
  cases v with
  | ptr a =>
    cases a with
    | none => exact k
    | some p => obtain ⟨a, h1, h2⟩ := k; exact ⟨a, h1.ext h, h2⟩
  | slice a l cap =>
    cases a with
    | none => exact k
    | some p => obtain ⟨a, c, h1, h2, h3, h4, h5⟩ := k; exact ⟨a, c, fun hl => (h1 hl).ext h, h2, h3, h4, h5.ext h⟩
  | fn f caps =>
    obtain ⟨cs, h1, h2, h3⟩ := k
    exact ⟨cs, h1, h2, fun j p hp => by obtain ⟨a, h4, h5⟩ := h3 j p hp; exact ⟨a, h4.ext h, h5⟩⟩
  | _ => exact k
theorem Cells.ext {β β' : Beta} (h : Ext β β') {cs : List CV} {xs : List Value} (k : Cells β cs xs) : Cells β' cs xs :=
  ⟨k.1, fun j c hc => by obtain ⟨x, h1, h2⟩ := k.2 j c hc; exact ⟨x, h1, CV.rel_ext h h2⟩⟩
theorem V0.rel_ext {β β' : Beta} (h : Ext β β') {v : V0} {x : Value} (k : v.rel β x) : v.rel β' x := by
  cases v with
  | c v => exact CV.rel_ext h k
  | agg cs => obtain ⟨xs, h1, h2⟩ := k; exact ⟨xs, h1, h2.ext h⟩
theorem AV.rel_ext {β β' : Beta} (h : Ext β β') {v : AV} {x : Value} (k : v.rel β x) : v.rel β' x := by
  cases v with
  | c v => exact CV.rel_ext h k
  | agg cs => obtain ⟨xs, h1, h2⟩ := k; exact ⟨xs, h1, h2.ext h⟩
  | tup vs => obtain ⟨xs, h1, h2, h3⟩ := k; exact ⟨xs, h1, h2, fun j v hv => by obtain ⟨y, h4, h5⟩ := h3 j v hv; exact ⟨y, h4, V0.rel_ext h h5⟩⟩

/-- No addresses at all. -/
def CV.plain : CV → Bool
  | .int _ _ | .bool _ | .str _ | .ptr none | .slice none _ _ | .undef => true
  | .fn _ caps => caps.isEmpty
  | _ => false
def V0.plain : V0 → Bool
  | .c v => v.plain
  | .agg cs => cs.all CV.plain
def AV.plain : AV → Bool
  | .c v => v.plain
  | .agg cs => cs.all CV.plain
  | .tup vs => vs.all V0.plain
theorem CV.plain_rel {β β' : Beta} {v : CV} {x : Value} (hp : v.plain = true) (k : v.rel β x) : v.rel β' x := by
  cases v with
  | ptr a => cases a with | none => exact k | some p => simp [CV.plain] at hp
  | slice a l cap => cases a with | none => exact k | some p => simp [CV.plain] at hp
  | fn f caps =>
    obtain ⟨cs, h1, h2, h3⟩ := k
    simp [CV.plain] at hp; subst hp
    exact ⟨cs, h1, h2, fun j p hp => by simp at hp⟩
  | _ => exact k
theorem Cells.plain {β β' : Beta} {cs : List CV} {xs : List Value} (hp : cs.all CV.plain = true) (k : Cells β cs xs) : Cells β' cs xs :=
  ⟨k.1, fun j c hc => by obtain ⟨x, h1, h2⟩ := k.2 j c hc; exact ⟨x, h1, CV.plain_rel (List.all_eq_true.1 hp _ (List.mem_of_getElem? hc)) h2⟩⟩
theorem V0.plain_rel {β β' : Beta} {v : V0} {x : Value} (hp : v.plain = true) (k : v.rel β x) : v.rel β' x := by
  cases v with
  | c v => exact CV.plain_rel hp k
  | agg cs => obtain ⟨xs, h1, h2⟩ := k; exact ⟨xs, h1, h2.plain hp⟩
theorem AV.plain_rel {β β' : Beta} {v : AV} {x : Value} (hp : v.plain = true) (k : v.rel β x) : v.rel β' x := by
  cases v with
  | c v => exact CV.plain_rel hp k
  | agg cs => obtain ⟨xs, h1, h2⟩ := k; exact ⟨xs, h1, h2.plain hp⟩
  | tup vs => obtain ⟨xs, h1, h2, h3⟩ := k; exact ⟨xs, h1, h2, fun j v hv => by obtain ⟨y, h4, h5⟩ := h3 j v hv; exact ⟨y, h4, V0.plain_rel (List.all_eq_true.1 hp _ (List.mem_of_getElem? hv)) h5⟩⟩

/-- All ids are below n. -/
def CV.validIn (n : Nat) : CV → Bool
  | .ptr (some p) => decide (p.1 < n)
  | .slice (some p) l cap => !needsAddr l cap || decide (p.1 < n)
  | .fn _ caps => caps.all fun p => decide (p.1 < n)
  | _ => true
theorem AddrRel.valid {β β' : Beta} (h : Ext β β') {p : Nat × Nat} {a : Addr} (hp : p.1 < β.length) (k : AddrRel β' p a) : AddrRel β p a := by
  obtain ⟨b, o, n, h1, h2⟩ := k
  exact ⟨b, o, n, by rw [← h.get_lt hp]; exact h1, h2⟩
theorem CapRel.valid {β β' : Beta} (h : Ext β β') {p : Nat × Nat} {c : Nat} {cap : Cap} (hp : (∃ sz, cap = .toEnd sz) → p.1 < β.length) (k : CapRel β' p c cap) : CapRel β p c cap := by
  cases cap with
  | toEnd sz => obtain ⟨b, o, n, h1, h2⟩ := k; exact ⟨b, o, n, by rw [← h.get_lt (hp ⟨_, rfl⟩)]; exact h1, h2⟩
  | _ => exact k
theorem CV.valid_rel {β β' : Beta} (h : Ext β β') {v : CV} {x : Value} (hv : v.validIn β.length = true) (k : v.rel β' x) : v.rel β x := by
  cases v with
  | ptr a =>
    cases a with
    | none => exact k
    | some p => obtain ⟨a, h1, h2⟩ := k; exact ⟨a, h1.valid h (by simpa [CV.validIn] using hv), h2⟩
  | slice a l cap =>
    cases a with
    | none => exact k
    | some p =>
      obtain ⟨a, c, h1, h2, h3, h4, h5⟩ := k
      have hp : needsAddr l cap = true → p.1 < β.length := fun hn => by simpa [CV.validIn, hn] using hv
      exact ⟨a, c, fun hl => (h1 hl).valid h (hp hl), h2, h3, h4, h5.valid h (fun ⟨sz, e⟩ => hp (by rw [e]; rfl))⟩
  | fn f caps =>
    obtain ⟨cs, h1, h2, h3⟩ := k
    simp [CV.validIn] at hv
    exact ⟨cs, h1, h2, fun j p hp => by
      obtain ⟨a, h4, h5⟩ := h3 j p hp
      exact ⟨a, h4.valid h (hv _ _ (List.mem_of_getElem? hp)), h5⟩⟩
  | _ => exact k

/-! ### The heap's relation -/
/-- Concrete block b is one that the abstract heap owns. -/
def Owned (β : Beta) (H : AHeap) (b : Nat) : Prop := ∃ (i : Nat) (blk : Blk) (o : Nat), H[i]? = some (some blk) ∧ (blk.m = .own ∨ blk.m = .opn) ∧ ∃ k, β[i]? = some (b, o, k)

structure RoRel (B0 : Nat) (β : Beta) (w : World) (i : Nat) (blk : Blk) : Prop where
  at_ : ∃ b o k, β[i]? = some (b, o, k) ∧ b < B0 ∧ ∀ (j : Nat) (c : CV), blk.cells[j]? = some c → ∃ x, w.cell? ⟨b, o + j, none⟩ = some x ∧ c.rel β x

structure OwnRel (B0 : Nat) (β : Beta) (w : World) (i : Nat) (blk : Blk) : Prop where
  at_ : ∃ (b : Nat) (xs : List Value), β[i]? = some (b, 0, xs.length) ∧ B0 ≤ b ∧ w.heap[b]? = some (.cells xs.toArray blk.e (0, 0)) ∧ Cells β blk.cells (xs.take blk.cells.length) ∧ (blk.m = .own → xs.length = blk.cells.length)

def BlkRel (B0 : Nat) (β : Beta) (w : World) (i : Nat) (blk : Blk) : Prop :=
  (blk.m = .ro ∧ RoRel B0 β w i blk) ∨ ((blk.m = .own ∨ blk.m = .opn) ∧ OwnRel B0 β w i blk)

def pow10L : List Value := ((List.range 20).map fun i => ((10 ^ i : Nat) : Int)).map fun z => Value.int .u64 z
/-- What is known of the world below the base: the first variable holds a number, the second one the powers of ten. -/
def GI (B0 : Nat) (w : World) : Prop := 2 ≤ B0 ∧ (∃ m : Int, w.cell? ⟨0, 0, none⟩ = some (.int .i64 m)) ∧ ∃ (t : TypeId) (fr : Nat × Nat), w.heap[1]? = some (.cells pow10L.toArray t fr)
theorem GI.kept {B0 : Nat} {w w' : World} (h : GI B0 w) (b : Below B0 w w') : GI B0 w' := by
  obtain ⟨h1, ⟨m, h2⟩, t, fr, h3⟩ := h
  exact ⟨h1, ⟨m, by rw [b.cell (show 0 < B0 by omega)]; exact h2⟩, t, fr, by rw [b.block 1 (by omega)]; exact h3⟩

structure HR (B0 : Nat) (β : Beta) (H : AHeap) (w : World) : Prop where
  len : β.length = H.length
  base : B0 ≤ w.heap.size
  blk : ∀ (i : Nat) (blk : Blk), H[i]? = some (some blk) → BlkRel B0 β w i blk
  inj : ∀ (i j : Nat) (bi bj : Blk) (b oi oj ki kj : Nat), H[i]? = some (some bi) → H[j]? = some (some bj) → (bi.m = .own ∨ bi.m = .opn) → (bj.m = .own ∨ bj.m = .opn) → β[i]? = some (b, oi, ki) → β[j]? = some (b, oj, kj) → i = j
  gi : GI B0 w

/-- From (β, H, w) to (β', H', w'). -/
structure Go_ (B0 : Nat) (β : Beta) (H : AHeap) (w : World) (β' : Beta) (H' : AHeap) (w' : World) : Prop where
  hr : HR B0 β' H' w'
  ext : Ext β β'
  below : Below B0 w w'
  fr : ∀ b, b < w.heap.size → ¬ Owned β H b → w'.heap[b]? = w.heap[b]?
  sub : ∀ b, b < w.heap.size → Owned β' H' b → Owned β H b

theorem Go_.refl {B0 : Nat} {β : Beta} {H : AHeap} {w : World} (h : HR B0 β H w) : Go_ B0 β H w β H w :=
  ⟨h, .refl _, .refl _ _, fun _ _ _ => rfl, fun _ _ h => h⟩
theorem Go_.trans {B0 : Nat} {β : Beta} {H : AHeap} {w : World} {β1 : Beta} {H1 : AHeap} {w1 : World} {β2 : Beta} {H2 : AHeap} {w2 : World}
    (a : Go_ B0 β H w β1 H1 w1) (b : Go_ B0 β1 H1 w1 β2 H2 w2) : Go_ B0 β H w β2 H2 w2 :=
  ⟨b.hr, a.ext.trans b.ext, a.below.trans b.below,
   fun x hx hn => by
    have h1 := Nat.lt_of_lt_of_le hx a.below.size
    rw [b.fr x h1 (fun ho => hn (a.sub x hx ho)), a.fr x hx hn],
   fun x hx ho => a.sub x hx (b.sub x (Nat.lt_of_lt_of_le hx a.below.size) ho)⟩

/-- A draw. -/
theorem HR.drewN {B0 : Nat} {β : Beta} {H : AHeap} {w : World} (h : HR B0 β H w) (n : Nat) : HR B0 β H (w.drewN n) :=
  ⟨h.len, h.base, fun i blk hb => by
    rcases h.blk i blk hb with ⟨hm, ⟨x⟩⟩ | ⟨hm, ⟨x⟩⟩
    · exact .inl ⟨hm, ⟨x⟩⟩
    · exact .inr ⟨hm, ⟨x⟩⟩, h.inj, h.gi.kept ⟨rfl, rfl, rfl, Nat.le_refl _, fun _ _ => rfl⟩⟩
theorem Go_.drewN {B0 : Nat} {β : Beta} {H : AHeap} {w : World} (h : HR B0 β H w) (n : Nat) : Go_ B0 β H w β H (w.drewN n) :=
  ⟨h.drewN n, .refl _, ⟨rfl, rfl, rfl, Nat.le_refl _, fun _ _ => rfl⟩, fun _ _ _ => rfl, fun _ _ h => h⟩

end Go.Proofs.YtmockobmiagbcaaDoor.VI

set_option linter.unusedVariables false
set_option linter.unusedSimpArgs false
set_option linter.unusedSectionVars false
namespace Go.Proofs.YtmockobmiagbcaaDoor.VI
open Go Go.RowKit

abbrev Sl := Nat → AV
def upd (σ : Sl) (d : Nat) (v : AV) : Sl := fun j => if j = d then v else σ j
def putS (σ : Sl) (d : Option Nat) (v : AV) : Sl := match d with | some d => upd σ d v | none => σ

inductive Opd where
  | t (n : Nat)
  | k (v : AV)
def Opd.ev (σ : Sl) : Opd → AV
  | .t n => σ n
  | .k v => v

/-- What an equality is asked of. -/
inductive EqK where
  | int | bool | str | slice | ptr | other
  | agg (l : List EqK)

inductive KOp where
  | mov (x : Opd)
  | pick (c a b : Opd)
  | alloc (e : TypeId) (z : List CV)
  | box (e : TypeId) (x : Opd)
  | build (z : List CV) (parts : List (Nat × Nat × Opd))
  | buildSl (e : TypeId) (len : Nat) (z : List CV) (parts : List (Nat × Nat × Opd))
  | load1 (a : Opd)
  | loadN (n : Nat) (a : Opd)
  | store (n : Nat) (a x : Opd)
  | nilchk (x : Opd)
  | bin (op : BinOp) (q : EqK) (x y : Opd)
  | un (op : UnOp) (x : Opd)
  | conv (k : IntKind) (x : Opd)
  | convBS (x : Opd)
  | idxN (len size : Nat) (x i : Opd)
  | idx1 (len : Nat) (x i : Opd)
  | idxStr (x i : Opd)
  | idxA (len size : Nat) (x i : Opd)
  | idxS (size : Nat) (x i : Opd)
  | fldA (off : Nat) (x : Opd)
  | fldN (off n : Nat) (x : Opd)
  | fld1 (off : Nat) (x : Opd)
  | sliceS (size : Nat) (x : Opd) (lo hi mx : Option Opd)
  | sliceStr (x : Opd) (lo hi : Option Opd)
  | mkSl (e : TypeId) (z : List CV) (bytes : Nat) (l c : Opd)
  | mkFn (f : FuncId) (caps : List Opd)
  | ext (x : Opd) (i : Nat)
  | len (str : Bool) (x : Opd)
  | lenA (n : Nat)
  | app (e : TypeId) (size bytes : Nat) (x y : Opd)
  | min (xs : List Opd)
  | max (xs : List Opd)
  | call (f : Opd) (xs : List Opd)

structure KO where
  dst : Option Nat
  op : KOp
  g : Option (Nat × Bool)

inductive KC where
  | skip
  | region (ops : List KO)
  | drawn (steps : List (KO × List KO))
  | seq (a b : KC)
  | cond (x : Opd) (a b : KC)
  | block (id : Nat) (c : KC)
  | loop (c : KC)
  | exit (id : Nat)
  | ret
  | nat (np n : Nat) (φ : List AV → AHeap → Option (List V0 × AHeap))

inductive KR where
  | tmp (t : Nat)
  | cell1 (t : Nat)
  | cellN (t n : Nat)

structure KF where
  np : Nat
  body : KC
  res : List KR
  gc : Bool

/-! ### Arithmetic -/
def vand (k : IntKind) (a b : Int) : Int := k.wrap ((BitVec.ofInt k.bits a &&& BitVec.ofInt k.bits b).toNat)
def vor (k : IntKind) (a b : Int) : Int := k.wrap ((BitVec.ofInt k.bits a ||| BitVec.ofInt k.bits b).toNat)
def vxor (k : IntKind) (a b : Int) : Int := k.wrap ((BitVec.ofInt k.bits a ^^^ BitVec.ofInt k.bits b).toNat)
def vandNot (k : IntKind) (a b : Int) : Int := k.wrap ((BitVec.ofInt k.bits a &&& ~~~ BitVec.ofInt k.bits b).toNat)
def vshl (k : IntKind) (a : Int) (n : Int) : Int := k.wrap (a * 2 ^ (Nat.min n.toNat k.bits))
def vshr (k : IntKind) (a : Int) (n : Int) : Int := a.fdiv (2 ^ (Nat.min n.toNat k.bits))

def intBin (op : BinOp) (k : IntKind) (a b : Int) : Option CV :=
  match op with
  | .add => some (.int k (k.wrap (a + b)))
  | .sub => some (.int k (k.wrap (a - b)))
  | .mul => some (.int k (k.wrap (a * b)))
  | .quo => if b = 0 then none else some (.int k (k.wrap (a.tdiv b)))
  | .rem => if b = 0 then none else some (.int k (a.tmod b))
  | .and => some (.int k (vand k a b))
  | .or => some (.int k (vor k a b))
  | .xor => some (.int k (vxor k a b))
  | .andNot => some (.int k (vandNot k a b))
  | .eql => some (.bool (a == b))
  | .neq => some (.bool (a != b))
  | .lss => some (.bool (decide (a < b)))
  | .leq => some (.bool (decide (a ≤ b)))
  | .gtr => some (.bool (decide (b < a)))
  | .geq => some (.bool (decide (b ≤ a)))
  | .shl => if b < 0 then none else some (.int k (vshl k a b))
  | .shr => if b < 0 then none else some (.int k (vshr k a b))

def strBin (op : BinOp) (a b : ByteArray) : Option CV :=
  match op with
  | .add => if a.size + b.size ≤ 140737488355328 then some (.str (a ++ b)) else none
  | .eql => some (.bool (a.toList == b.toList))
  | .neq => some (.bool (!(a.toList == b.toList)))
  | .lss => some (.bool (Op.bytesLess a.toList b.toList))
  | _ => none

def eqRes (op : BinOp) (r : Bool) : Option CV :=
  match op with
  | .eql => some (.bool r)
  | .neq => some (.bool !r)
  | _ => none

def binC (op : BinOp) (q : EqK) (x y : CV) : Option CV :=
  match x, y with
  | .int k a, .int k' b => if (op = .shl ∨ op = .shr) ∨ k = k' then intBin op k a b else none
  | .str a, .str b => strBin op a b
  | .bool a, .bool b => match q with | .bool => eqRes op (a == b) | _ => none
  | .slice none _ _, .slice b _ _ => match q with | .slice => eqRes op b.isNone | _ => none
  | .slice (some _) _ _, .slice none _ _ => match q with | .slice => eqRes op false | _ => none
  | .ptr none, .ptr b => match q with | .ptr => eqRes op b.isNone | _ => none
  | .ptr (some _), .ptr none => match q with | .ptr => eqRes op false | _ => none
  | _, _ => none

/-- Equality of one cell. -/
def eqC (q : EqK) (x y : CV) : Option Bool :=
  match q, x, y with
  | .int, .int k a, .int k' b => if k = k' then some (a == b) else none
  | .bool, .bool a, .bool b => some (a == b)
  | .str, .str a, .str b => some (a == b)
  | _, _, _ => none
def eqCells : List EqK → List CV → List CV → Option Bool
  | [], [], [] => some true
  | q :: qs, x :: xs, y :: ys => match eqC q x y, eqCells qs xs ys with
    | some a, some b => some (a && b)
    | _, _ => none
  | _, _, _ => none

def binA (op : BinOp) (q : EqK) (x y : AV) : Option AV :=
  match x, y with
  | .c x, .c y => (binC op q x y).map .c
  | .agg xs, .agg ys => match q with
    | .agg l => match eqCells l xs ys with
      | some r => (eqRes op r).map .c
      | none => none
    | _ => none
  | _, _ => none

def unA (op : UnOp) (x : AV) : Option AV :=
  match op, x with
  | .neg, .c (.int k n) => some (.c (.int k (k.wrap (0 - n))))
  | .xor, .c (.int k n) => some (.c (.int k (vxor k (if k.signed then -1 else k.max) n)))
  | .not, .c (.bool b) => some (.c (.bool !b))
  | _, _ => none

/-! ### The heap -/
def readCells (H : AHeap) (p : Nat × Nat) (n : Nat) : Option (List CV) :=
  match H.get p.1 with
  | some blk => if p.2 + n ≤ blk.cells.length then some ((blk.cells.drop p.2).take n) else none
  | none => none
def readCell (H : AHeap) (p : Nat × Nat) : Option CV :=
  match H.get p.1 with
  | some blk => blk.cells[p.2]?
  | none => none
def CV.ok : CV → Bool
  | .undef => false
  | _ => true
def setAt (l : List CV) (off : Nat) (vs : List CV) : List CV := l.take off ++ vs ++ l.drop (off + vs.length)
def writeCells (H : AHeap) (p : Nat × Nat) (vs : List CV) : Option AHeap :=
  match H.get p.1 with
  | some blk => match blk.m with
    | .ro => none
    | _ => if p.2 + vs.length ≤ blk.cells.length ∧ vs.all CV.ok = true then some (H.set p.1 (some { blk with cells := setAt blk.cells p.2 vs })) else none
  | none => none

def fillC (z : List CV) : List (Nat × Nat × List CV) → Option (List CV)
  | [] => some z
  | (off, n, cs) :: rest => if cs.length = n ∧ off + n ≤ z.length then fillC (setAt z off cs) rest else none

def partsA (σ : Sl) : List (Nat × Nat × Opd) → Option (List (Nat × Nat × List CV))
  | [] => some []
  | (off, n, x) :: rest => match (x.ev σ).cells?, partsA σ rest with
    | some cs, some l => some ((off, n, cs) :: l)
    | _, _ => none

def capsA (σ : Sl) : List Opd → Option (List (Nat × Nat))
  | [] => some []
  | x :: rest => match x.ev σ, capsA σ rest with
    | .c (.ptr (some p)), some l => some (p :: l)
    | _, _ => none

def intA : AV → Option Int
  | .c (.int _ n) => some n
  | _ => none

def optInt (σ : Sl) : Option Opd → Option (Option Int)
  | none => some none
  | some x => match x.ev σ with
    | .c (.int _ n) => some (some n)
    | _ => none

/-- The capacity behind a cut at l. -/
def capCut (s l n : Nat) : Cap → Cap
  | .exact k => .exact (k - l)
  | .toEnd sz => if n = 0 ∨ sz ≠ s then .any else .toEnd sz
  | .any => .any
/-- The bounds of a cut: low, high. -/
def sliceA (size : Nat) (x : AV) (lo hi mx : Option Int) : Option AV :=
  match x with
  | .c (.slice a len cap) =>
    let h := hi.getD len
    let l := lo.getD 0
    if 0 ≤ l ∧ l ≤ h ∧ h ≤ len then
      match mx with
      | none => some (.c (.slice (a.map fun p => (p.1, p.2 + l.toNat * size)) (h - l).toNat (capCut size l.toNat (h - l).toNat cap)))
      | some m => if h ≤ m ∧ m ≤ len ∧ hi.isSome then some (.c (.slice (a.map fun p => (p.1, p.2 + l.toNat * size)) (h - l).toNat (.exact (m - l).toNat))) else none
    else none
  | _ => none

def sliceStrA (x : AV) (lo hi : Option Int) : Option AV :=
  match x with
  | .c (.str s) =>
    let h := hi.getD s.size
    let l := lo.getD 0
    if 0 ≤ l ∧ l ≤ h ∧ h ≤ s.size then some (.c (.str (s.extract l.toNat h.toNat))) else none
  | _ => none

def bytesOfCells : List CV → Option (List UInt8)
  | [] => some []
  | .int .u8 n :: rest => (bytesOfCells rest).map (UInt8.ofNat n.toNat :: ·)
  | _ => none

/-- The cells that an append takes from its second argument. -/
def srcCells (H : AHeap) (size : Nat) : AV → Option (Nat × List CV)
  | .c (.slice none _ _) => some (0, [])
  | .c (.slice (some p) l _) => if l = 0 then some (0, []) else (readCells H p (l * size)).map fun cs => (l, cs)
  | .c (.str s) => if size = 1 then some (s.size, s.data.toList.map fun b => .int .u8 b.toNat) else none
  | _ => none

/-- An append: the block that it makes; the elder one, if it was the call's own, is dead. -/
def appendA (H : AHeap) (e : TypeId) (size bytes : Nat) (x y : AV) : Option (AV × AHeap) :=
  match x, srcCells H size y with
  | .c (.slice a len cap), some (n, cs) =>
    if n = 0 then some (x, H)
    else if (len + n) * bytes ≤ 70368744177664 ∧ cs.all CV.ok = true then
      match a with
      | none => some (.c (.slice (some (H.length, 0)) n (.toEnd size)), H ++ [some ⟨e, cs, .opn⟩])
      | some p =>
        match cap with
        | .exact k =>
          if len + n ≤ k then (writeCells H (p.1, p.2 + len * size) cs).map fun H' => (.c (.slice (some p) (len + n) (.exact k)), H')
          else if len = 0 then some (.c (.slice (some (H.length, 0)) n (.toEnd size)), H ++ [some ⟨e, cs, .opn⟩])
          else match readCells H p (len * size) with
            | some old => some (.c (.slice (some (H.length, 0)) (len + n) (.toEnd size)), H ++ [some ⟨e, old ++ cs, .opn⟩])
            | none => none
        | .toEnd sz => match H.get p.1 with   -- the call's own row, to its end
          | some blk => match blk.m with
            | .ro => none
            | _ => if sz = size ∧ 0 < len ∧ p.2 = 0 ∧ blk.cells.length = len * size ∧ blk.e = e then
                some (.c (.slice (some (H.length, 0)) (len + n) (.toEnd size)), H.set p.1 none ++ [some ⟨e, blk.cells ++ cs, .opn⟩])
              else none
          | none => none
        | .any => none
    else none
  | _, _ => none

def minL : Int → List AV → IntKind → Option Int
  | m, [], _ => some m
  | m, .c (.int k n) :: r, k0 => if k = k0 then minL (if n < m then n else m) r k0 else none
  | _, _ :: _, _ => none
def maxL : Int → List AV → IntKind → Option Int
  | m, [], _ => some m
  | m, .c (.int k n) :: r, k0 => if k = k0 then maxL (if n > m then n else m) r k0 else none
  | _, _ :: _, _ => none

abbrev CallA := FuncId → List AV → AHeap → Option (AV × AHeap)

def evalOp (call : CallA) (σ : Sl) (H : AHeap) : KOp → Option (AV × AHeap)
  | .mov x => some (x.ev σ, H)
  | .pick c a b => match c.ev σ with
    | .c (.bool t) => some (if t then a.ev σ else b.ev σ, H)
    | _ => none
  | .alloc e z => some (.c (.ptr (some (H.length, 0))), H ++ [some ⟨e, z, .own⟩])
  | .box e x => match (x.ev σ).cells? with
    | some cs => some (.c (.ptr (some (H.length, 0))), H ++ [some ⟨e, cs, .own⟩])
    | none => none
  | .build z parts => match partsA σ parts with
    | some l => (fillC z l).map fun cs => (.agg cs, H)
    | none => none
  | .buildSl e len z parts => match partsA σ parts with
    | some l => (fillC z l).map fun cs => (.c (.slice (some (H.length, 0)) len (.exact len)), H ++ [some ⟨e, cs, .own⟩])
    | none => none
  | .load1 a => match a.ev σ with
    | .c (.ptr (some p)) => (readCell H p).map fun v => (.c v, H)
    | _ => none
  | .loadN n a => match a.ev σ with
    | .c (.ptr (some p)) => (readCells H p n).map fun cs => (.agg cs, H)
    | _ => none
  | .store n a x => match a.ev σ with
    | .c (.ptr (some p)) => match (x.ev σ).cells? with
      | some cs => if cs.length = n then (writeCells H p cs).map fun H' => (.c .undef, H') else none
      | none => none
    | _ => none
  | .nilchk x => match x.ev σ with
    | .c (.ptr (some p)) => some (.c (.ptr (some p)), H)
    | .c (.fn f cs) => some (.c (.fn f cs), H)
    | _ => none
  | .bin op q x y => (binA op q (x.ev σ) (y.ev σ)).map fun v => (v, H)
  | .un op x => (unA op (x.ev σ)).map fun v => (v, H)
  | .conv k x => match x.ev σ with
    | .c (.int _ n) => some (.c (.int k (k.wrap n)), H)
    | _ => none
  | .convBS x => match x.ev σ with
    | .c (.slice none _ _) => some (.c (.str .empty), H)
    | .c (.slice (some p) l _) => if l = 0 then some (.c (.str .empty), H) else match readCells H p l with
      | some cs => (bytesOfCells cs).map fun bs => (.c (.str ⟨bs.toArray⟩), H)
      | none => none
    | _ => none
  | .idxN len size x i => match x.ev σ, i.ev σ with
    | .agg cs, .c (.int _ n) => if 0 ≤ n ∧ n < len ∧ n.toNat * size + size ≤ cs.length then some (.agg ((cs.drop (n.toNat * size)).take size), H) else none
    | _, _ => none
  | .idx1 len x i => match x.ev σ, i.ev σ with
    | .agg cs, .c (.int _ n) => if 0 ≤ n ∧ n < len then (cs[n.toNat]?).map fun v => (.c v, H) else none
    | _, _ => none
  | .idxStr x i => match x.ev σ, i.ev σ with
    | .c (.str s), .c (.int _ n) => if 0 ≤ n then (s[n.toNat]?).map fun b => (.c (.int .u8 b.toNat), H) else none
    | _, _ => none
  | .idxA len size x i => match x.ev σ, i.ev σ with
    | .c (.ptr (some p)), .c (.int _ n) => if 0 ≤ n ∧ n < len then some (.c (.ptr (some (p.1, p.2 + n.toNat * size))), H) else none
    | _, _ => none
  | .idxS size x i => match x.ev σ, i.ev σ with
    | .c (.slice (some p) l _), .c (.int _ n) => if 0 ≤ n ∧ n < l then some (.c (.ptr (some (p.1, p.2 + n.toNat * size))), H) else none
    | _, _ => none
  | .fldA off x => match x.ev σ with
    | .c (.ptr (some p)) => some (.c (.ptr (some (p.1, p.2 + off))), H)
    | _ => none
  | .fldN off n x => match x.ev σ with
    | .agg cs => if off + n ≤ cs.length then some (.agg ((cs.drop off).take n), H) else none
    | _ => none
  | .fld1 off x => match x.ev σ with
    | .agg cs => (cs[off]?).map fun v => (.c v, H)
    | _ => none
  | .sliceS size x lo hi mx => match optInt σ lo, optInt σ hi, optInt σ mx with
    | some lo, some hi, some mx => (sliceA size (x.ev σ) lo hi mx).map fun v => (v, H)
    | _, _, _ => none
  | .sliceStr x lo hi => match optInt σ lo, optInt σ hi with
    | some lo, some hi => (sliceStrA (x.ev σ) lo hi).map fun v => (v, H)
    | _, _ => none
  | .mkSl e z bytes l c => match l.ev σ, c.ev σ with
    | .c (.int _ n), .c (.int _ m) => if 0 ≤ n ∧ n ≤ m ∧ m.toNat * bytes ≤ 140737488355328 ∧ 0 < bytes then
        some (.c (.slice (some (H.length, 0)) n.toNat (.exact m.toNat)), H ++ [some ⟨e, (List.replicate m.toNat z).flatten, .own⟩]) else none
    | _, _ => none
  | .mkFn f caps => (capsA σ caps).map fun l => (.c (.fn f l), H)
  | .ext x i => match x.ev σ with
    | .tup vs => (vs[i]?).map fun v => (v.toAV, H)
    | _ => none
  | .len str x => match str, x.ev σ with
    | false, .c (.slice _ l _) => some (.c (.int .i64 l), H)
    | true, .c (.str s) => some (.c (.int .i64 s.size), H)
    | _, _ => none
  | .lenA n => some (.c (.int .i64 n), H)
  | .app e size bytes x y => appendA H e size bytes (x.ev σ) (y.ev σ)
  | .min xs => match xs.map (Opd.ev σ) with
    | .c (.int k n) :: r => (minL n r k).map fun m => (.c (.int k m), H)
    | _ => none
  | .max xs => match xs.map (Opd.ev σ) with
    | .c (.int k n) :: r => (maxL n r k).map fun m => (.c (.int k m), H)
    | _ => none
  | .call f xs => match f.ev σ with
    | .c (.fn f caps) => call f (xs.map (Opd.ev σ) ++ caps.map fun p => .c (.ptr (some p))) H
    | _ => none

abbrev St := Sl × AHeap

/-- Is it to be carried out? -/
def wantA (σ : Sl) : Option (Nat × Bool) → Bool
  | none => true
  | some (j, want) => match σ j with
    | .c (.bool b) => b == want
    | _ => false

def evalKO (call : CallA) (o : KO) (s : St) : Option St :=
  if wantA s.1 o.g then (evalOp call s.1 s.2 o.op).map fun r => (putS s.1 o.dst r.1, r.2)
  else some (putS s.1 o.dst (.c .undef), s.2)

def evalOps (call : CallA) : List KO → St → Option St
  | [], s => some s
  | o :: r, s => (evalKO call o s).bind (evalOps call r)

inductive Ex where
  | norm | exit (id : Nat) | ret

def iter (f : St → Option (Ex × St)) : Nat → St → Option (Ex × St)
  | 0, _ => none
  | n + 1, s => match f s with
    | some (.norm, s') => iter f n s'
    | r => r

/-- Is what was read still there? -/
def rcOk (s : St) (o : KO) : Prop := wantA s.1 o.g = true → evalOp (fun _ _ _ => none) s.1 s.2 o.op = some (match o.dst with | some d => s.1 d | none => .c .undef, s.2)
open Classical in
/-- A region that draws its order: one order; what was read is read again where another order would read it. -/
noncomputable def evalDrawn (call : CallA) : List (KO × List KO) → St → Option St
  | [], s => some s
  | x :: r, s => (evalOps call [x.1] s).bind fun s' => if (∀ o ∈ x.2, rcOk s' o) then evalDrawn call r s' else none

def AV.isDef : AV → Bool
  | .c .undef => false
  | _ => true
noncomputable def evalC (call : CallA) (n : Nat) : KC → St → Option (Ex × St)
  | .skip, s => some (.norm, s)
  | .region ops, s => (evalOps call ops s).map fun s' => (.norm, s')
  | .drawn steps, s => (evalDrawn call steps s).map fun s' => (.norm, s')
  | .seq a b, s => match evalC call n a s with
    | some (.norm, s') => evalC call n b s'
    | r => r
  | .cond x a b, s => match x.ev s.1 with
    | .c (.bool t) => if t then evalC call n a s else evalC call n b s
    | _ => none
  | .block id c, s => match evalC call n c s with
    | some (.exit j, s') => if j = id then some (.norm, s') else some (.exit j, s')
    | r => r
  | .loop c, s => iter (evalC call n c) n s
  | .exit id, s => some (.exit id, s)
  | .ret, s => some (.ret, s)
  | .nat np n φ, s => if ((List.range np).map s.1).all AV.isDef = true then (φ ((List.range np).map s.1) s.2).bind fun x => if x.1.length = n then some (.norm, (fun j => if j < np then s.1 j else ((x.1[j - np]?).map V0.toAV).getD (.c .undef), x.2)) else none else none
/-- A function that is told by what it answers. -/
def kNat (np n : Nat) (φ : List AV → AHeap → Option (List V0 × AHeap)) : KF := ⟨np, .nat np n φ, (List.range n).map fun i => .tmp (np + i), false⟩

def evalR (σ : Sl) (H : AHeap) : KR → Option V0
  | .tmp t => (σ t).toV0?
  | .cell1 t => match σ t with
    | .c (.ptr (some p)) => (readCell H p).map .c
    | _ => none
  | .cellN t n => match σ t with
    | .c (.ptr (some p)) => (readCells H p n).map .agg
    | _ => none
def evalRs (σ : Sl) (H : AHeap) : List KR → Option (List V0)
  | [] => some []
  | r :: rs => match evalR σ H r, evalRs σ H rs with
    | some v, some l => some (v :: l)
    | _, _ => none
def mkRes : List V0 → AV
  | [v] => v.toAV
  | vs => .tup vs

open Classical in
/-- What is dropped at a return: all new blocks, where nothing leads to them. -/
noncomputable def finish (gc : Bool) (H : AHeap) (v : AV) (H' : AHeap) : Option (AV × AHeap) :=
  if gc then
    if v.plain = true ∧ (∀ i blk, i < H.length → H'[i]? = some (some blk) → H[i]? = some (some blk) ∨ blk.cells.all (CV.validIn H.length) = true) then some (v, H'.take H.length) else none
  else some (v, H')

noncomputable def evalBody (call : CallA) (n : Nat) (kf : KF) (args : List AV) (H : AHeap) : Option (AV × AHeap) :=
  if args.length ≤ kf.np then
    match evalC call n kf.body (fun i => args.getD i (.c .undef), H) with
    | some (.norm, σ, H') | some (.ret, σ, H') => match evalRs σ H' kf.res with
      | some vs => finish kf.gc H (mkRes vs) H'
      | none => none
    | _ => none
  else none

noncomputable def evalF (K : FuncId → Option KF) : Nat → CallA
  | 0, _, _, _ => none
  | n + 1, f, args, H => match K f with
    | some kf => evalBody (evalF K n) (n + 1) kf args H
    | none => none

end Go.Proofs.YtmockobmiagbcaaDoor.VI

set_option linter.unusedVariables false
set_option linter.unusedSimpArgs false
set_option linter.unusedSectionVars false
namespace Go.Proofs.YtmockobmiagbcaaDoor.VI
open Go Go.RowKit

theorem add_plain (b off i : Nat) : (⟨b, off, none⟩ : Addr).add i = ⟨b, off + i, none⟩ := by
  unfold Addr.add
  split
  · rename_i h; subst h; rfl
  · rfl

theorem Cells.nil (β : Beta) : Cells β [] [] := ⟨rfl, fun j c h => by simp at h⟩
theorem Cells.append {β : Beta} {a b : List CV} {x y : List Value} (h : Cells β a x) (k : Cells β b y) : Cells β (a ++ b) (x ++ y) := by
  refine ⟨by simp [h.1, k.1], fun j c hc => ?_⟩
  by_cases hj : j < a.length
  · rw [List.getElem?_append_left hj] at hc
    obtain ⟨u, h1, h2⟩ := h.2 j c hc
    exact ⟨u, by rw [List.getElem?_append_left (by rw [← h.1]; exact hj)]; exact h1, h2⟩
  · rw [List.getElem?_append_right (by omega)] at hc
    obtain ⟨u, h1, h2⟩ := k.2 _ c hc
    exact ⟨u, by rw [List.getElem?_append_right (by rw [← h.1]; omega), ← h.1]; exact h1, h2⟩
theorem Cells.take {β : Beta} {a : List CV} {x : List Value} (h : Cells β a x) (n : Nat) : Cells β (a.take n) (x.take n) := by
  refine ⟨by simp [h.1], fun j c hc => ?_⟩
  have hj : j < n := by
    have := (List.getElem?_eq_some_iff.1 hc).1
    simp at this; omega
  rw [List.getElem?_take_of_lt hj] at hc
  obtain ⟨u, h1, h2⟩ := h.2 j c hc
  exact ⟨u, by rw [List.getElem?_take_of_lt hj]; exact h1, h2⟩
theorem Cells.drop {β : Beta} {a : List CV} {x : List Value} (h : Cells β a x) (n : Nat) : Cells β (a.drop n) (x.drop n) := by
  refine ⟨by simp [h.1], fun j c hc => ?_⟩
  rw [List.getElem?_drop] at hc
  obtain ⟨u, h1, h2⟩ := h.2 _ c hc
  exact ⟨u, by rw [List.getElem?_drop]; exact h1, h2⟩
theorem Cells.one {β : Beta} {c : CV} {x : Value} (h : c.rel β x) : Cells β [c] [x] :=
  ⟨rfl, fun j d hd => by
    cases j with
    | zero => simp at hd; subst hd; exact ⟨x, rfl, h⟩
    | succ j => simp at hd⟩
theorem Cells.cons {β : Beta} {c : CV} {x : Value} {cs : List CV} {xs : List Value} (h : c.rel β x) (k : Cells β cs xs) : Cells β (c :: cs) (x :: xs) :=
  (Cells.one h).append k
theorem Cells.cons_inv {β : Beta} {c : CV} {cs : List CV} {xs : List Value} (k : Cells β (c :: cs) xs) : ∃ x xs', xs = x :: xs' ∧ c.rel β x ∧ Cells β cs xs' := by
  cases xs with
  | nil => have := k.1; simp at this
  | cons x xs' =>
    obtain ⟨y, h1, h2⟩ := k.2 0 c rfl
    simp at h1; subst h1
    exact ⟨x, xs', rfl, h2, by have := k.1; simpa using this, fun j d hd => by
      obtain ⟨z, h3, h4⟩ := k.2 (j + 1) d (by simpa using hd)
      exact ⟨z, by simpa using h3, h4⟩⟩
theorem Cells.nil_inv {β : Beta} {xs : List Value} (k : Cells β [] xs) : xs = [] := by
  have := k.1; simpa using this.symm

/-- A value's cells. -/
theorem AV.cells_rel {β : Beta} {v : AV} {cs : List CV} {x : Value} (h : v.cells? = some cs) (k : v.rel β x) : ∃ xs : List Value, x.cells = xs.toArray ∧ Cells β cs xs := by
  cases v with
  | c v =>
    simp [AV.cells?] at h; subst h
    refine ⟨[x], ?_, Cells.one k⟩
    cases x with
    | agg l =>
      exfalso
      cases v with
      | ptr a => cases a with
        | none => simp [AV.rel, CV.rel] at k
        | some p => obtain ⟨_, _, h⟩ := k; simp at h
      | slice a l cap => cases a with
        | none => simp [AV.rel, CV.rel] at k
        | some p => obtain ⟨_, _, _, _, h, _⟩ := k; simp at h
      | fn f caps => obtain ⟨_, h, _⟩ := k; simp at h
      | undef => simp [AV.rel, CV.rel, Go.undef] at k
      | _ => simp [AV.rel, CV.rel] at k
    | _ => rfl
  | agg cs' =>
    simp [AV.cells?] at h; subst h
    obtain ⟨xs, rfl, hc⟩ := k
    exact ⟨xs, rfl, hc⟩
  | tup vs => simp [AV.cells?] at h

/-- A cell that may be stored. -/
theorem CV.ok_store {β : Beta} {v : CV} {x : Value} (h : v.ok = true) (k : v.rel β x) : (∀ l, x ≠ .agg l) ∧ (∀ l, x ≠ .tuple l) := by
  cases v with
  | ptr a => cases a with
    | none => simp [CV.rel] at k; subst k; simp
    | some p => obtain ⟨_, _, h⟩ := k; subst h; simp
  | slice a l cap => cases a with
    | none => simp [CV.rel] at k; obtain ⟨_, k⟩ := k; subst k; simp
    | some p => obtain ⟨_, _, _, _, h, _⟩ := k; subst h; simp
  | fn f caps => obtain ⟨_, h, _⟩ := k; subst h; simp
  | undef => simp [CV.ok] at h
  | _ => simp [CV.rel] at k; subst k; simp

/-! ### Reading -/
theorem get_some {H : AHeap} {i : Nat} {blk : Blk} (h : H.get i = some blk) : H[i]? = some (some blk) := by
  unfold AHeap.get at h
  cases hh : H[i]? with
  | none => rw [hh] at h; simp at h
  | some o => rw [hh] at h; simp at h; rw [h]

theorem HR.cell {B0 : Nat} {β : Beta} {H : AHeap} {w : World} (h : HR B0 β H w) {i off : Nat} {blk : Blk} {c : CV} {a : Addr} (hg : H.get i = some blk) (hc : blk.cells[off]? = some c) (ha : AddrRel β (i, off) a) :
    ∃ x, w.cell? a = some x ∧ c.rel β x := by
  obtain ⟨b, o, k, hb, rfl⟩ := ha
  simp only at hb
  rcases h.blk i blk (get_some hg) with ⟨_, ⟨b', o', k', hb', _, hr⟩⟩ | ⟨_, ⟨b', xs, hb', _, hh, hcs, _⟩⟩
  · rw [hb] at hb'; injection hb' with hb'; injection hb' with e1 hb'; injection hb' with e2 e3
    subst e1; subst e2
    exact hr off c hc
  · rw [hb] at hb'; injection hb' with hb'; injection hb' with e1 hb'; injection hb' with e2 e3
    subst e1; subst e2
    obtain ⟨x, h1, h2⟩ := hcs.2 off c hc
    refine ⟨x, ?_, h2⟩
    have hlt : off < blk.cells.length := (List.getElem?_eq_some_iff.1 hc).1
    rw [List.getElem?_take_of_lt hlt] at h1
    simp [World.cell?, hh, h1]

theorem HR.readCell {B0 : Nat} {β : Beta} {H : AHeap} {w : World} (h : HR B0 β H w) {p : Nat × Nat} {c : CV} {a : Addr} (hc : readCell H p = some c) (ha : AddrRel β p a) :
    ∃ x, w.cell? a = some x ∧ c.rel β x := by
  unfold VI.readCell at hc
  split at hc
  · rename_i blk hg; exact h.cell hg hc ha
  · simp at hc

theorem readCells_spec {H : AHeap} {p : Nat × Nat} {n : Nat} {cs : List CV} (h : readCells H p n = some cs) : ∃ blk, H.get p.1 = some blk ∧ p.2 + n ≤ blk.cells.length ∧ cs = (blk.cells.drop p.2).take n := by
  unfold readCells at h
  split at h
  · rename_i blk hg
    split at h
    · rename_i hle; simp at h; exact ⟨blk, hg, hle, h.symm⟩
    · simp at h
  · simp at h

theorem readCells_len {H : AHeap} {p : Nat × Nat} {n : Nat} {cs : List CV} (h : readCells H p n = some cs) : cs.length = n := by
  obtain ⟨blk, _, hle, rfl⟩ := readCells_spec h
  simp; omega

theorem AddrRel.add {β : Beta} {p : Nat × Nat} {a : Addr} (h : AddrRel β p a) (n : Nat) : AddrRel β (p.1, p.2 + n) (a.add n) := by
  obtain ⟨b, o, k, h1, rfl⟩ := h
  exact ⟨b, o, k, h1, by rw [add_plain, Nat.add_assoc]⟩
theorem AddrRel.spot {β : Beta} {p : Nat × Nat} {a : Addr} (h : AddrRel β p a) : a.spot = none := by
  obtain ⟨b, o, k, h1, rfl⟩ := h; rfl

/-- Loading n cells from a on. -/
theorem run_loadCellsFrom {P : Program} {w : World} {a : Addr} : ∀ (xs : List Value) (i : Nat) (acc : Array Value), (∀ j (x : Value), xs[j]? = some x → w.cell? (a.add (i + j)) = some x) →
    (loadCellsFrom a i xs.length acc).run P w = .ok (acc ++ xs.toArray) w
  | [], i, acc, _ => by simp [loadCellsFrom]
  | x :: xs, i, acc, h => by
    have h0 := h 0 x rfl
    simp only [Nat.add_zero] at h0
    simp only [List.length_cons, loadCellsFrom, Sem.run_bind, run_load, h0, Result.andThen_ok]
    rw [run_loadCellsFrom xs (i + 1) (acc.push x) (fun j y hy => by
      have := h (j + 1) y (by simpa using hy)
      rw [show i + 1 + j = i + (j + 1) by omega]; exact this)]
    simp

theorem HR.loadCellsD {P : Program} {B0 : Nat} {β : Beta} {H : AHeap} {w : World} (h : HR B0 β H w) {p : Nat × Nat} {n : Nat} {cs : List CV} {a : Addr} (hc : readCells H p n = some cs) (ha : AddrRel β p a) :
    ∃ xs : List Value, xs.length = n ∧ (∀ k, (loadCells a n).run P (w.drewN k) = .ok xs.toArray (w.drewN k)) ∧ Cells β cs xs := by
  obtain ⟨blk, hg, hle, rfl⟩ := readCells_spec hc
  -- each cell has a value
  have hx : ∀ m, m ≤ n → ∃ xs : List Value, xs.length = m ∧ Cells β ((blk.cells.drop p.2).take m) xs ∧ ∀ j (x : Value), xs[j]? = some x → w.cell? (a.add j) = some x := by
    intro m
    induction m with
    | zero => intro _; exact ⟨[], rfl, by simpa using Cells.nil β, fun j x hj => by simp at hj⟩
    | succ m ih =>
      intro hm
      obtain ⟨xs, hl, hcs, hw⟩ := ih (by omega)
      have hlt : p.2 + m < blk.cells.length := by omega
      obtain ⟨x, h1, h2⟩ := h.cell (off := p.2 + m) hg (List.getElem?_eq_getElem hlt) (ha.add m)
      refine ⟨xs ++ [x], by simp [hl], ?_, fun j y hj => ?_⟩
      · rw [List.take_succ_eq_append_getElem (by simp; omega)]
        refine hcs.append (Cells.one ?_)
        simpa using h2
      · by_cases hjm : j < xs.length
        · rw [List.getElem?_append_left hjm] at hj; exact hw j y hj
        · rw [List.getElem?_append_right (by omega)] at hj
          have : j - xs.length = 0 := by
            rcases Nat.eq_zero_or_pos (j - xs.length) with h0 | h0
            · exact h0
            · rw [List.getElem?_eq_none (by simp only [List.length_singleton]; omega)] at hj; simp at hj
          rw [this] at hj; simp at hj; subst hj
          have : j = m := by omega
          subst this; exact h1
  obtain ⟨xs, hl, hcs, hw⟩ := hx n (Nat.le_refl _)
  refine ⟨xs, hl, fun k => ?_, hcs⟩
  have := run_loadCellsFrom (P := P) (w := w.drewN k) (a := a) xs 0 #[] (fun j x hj => by simpa using hw j x hj)
  rw [hl] at this
  simpa [Go.loadCells] using this

theorem HR.loadCells {P : Program} {B0 : Nat} {β : Beta} {H : AHeap} {w : World} (h : HR B0 β H w) {p : Nat × Nat} {n : Nat} {cs : List CV} {a : Addr} (hc : readCells H p n = some cs) (ha : AddrRel β p a) :
    ∃ xs : List Value, xs.length = n ∧ (loadCells a n).run P w = .ok xs.toArray w ∧ Cells β cs xs := by
  obtain ⟨xs, h1, h2, h3⟩ := h.loadCellsD (P := P) hc ha
  exact ⟨xs, h1, h2 0, h3⟩

/-! ### New blocks -/
theorem alloc_heap_lt (w : World) (o : Obj) {k : Nat} (h : k < w.heap.size) : (w.alloc o).heap[k]? = w.heap[k]? := Below.heap_alloc w o k h
theorem alloc_heap_new (w : World) (o : Obj) : (w.alloc o).heap[w.heap.size]? = some o := by
  show (w.heap.push o)[w.heap.size]? = _
  simp
theorem alloc_size (w : World) (o : Obj) : (w.alloc o).heap.size = w.heap.size + 1 := by
  show (w.heap.push o).size = _
  simp

theorem cell_lt {w : World} {b o : Nat} {x : Value} (h : w.cell? ⟨b, o, none⟩ = some x) : b < w.heap.size := by
  unfold World.cell? at h
  cases hh : w.heap[b]? with
  | none => simp [hh] at h
  | some _ => exact (Array.getElem?_eq_some_iff.1 hh).1

theorem HR.lt {B0 : Nat} {β : Beta} {H : AHeap} {w : World} (h : HR B0 β H w) {b : Nat} (ho : Owned β H b) : b < w.heap.size := by
  obtain ⟨i, blk, o, hi, hm, k, hb⟩ := ho
  rcases h.blk i blk hi with ⟨hm', _⟩ | ⟨_, ⟨b', xs, hb', _, hh, _⟩⟩
  · rw [hm'] at hm; simp at hm
  · rw [hb] at hb'; injection hb' with hb'; injection hb' with e1 _; subst e1
    exact (Array.getElem?_eq_some_iff.1 hh).1

/-- The relation of a block when the map is extended and the world's old blocks stay. -/
theorem BlkRel.kept {B0 : Nat} {β β' : Beta} {w w' : World} {i : Nat} {blk : Blk} (he : Ext β β') (hro : ∀ b, b < B0 → w'.heap[b]? = w.heap[b]?)
    (hw : (blk.m = .own ∨ blk.m = .opn) → ∀ b o k, β[i]? = some (b, o, k) → w'.heap[b]? = w.heap[b]?) (h : BlkRel B0 β w i blk) : BlkRel B0 β' w' i blk := by
  rcases h with ⟨hm, ⟨b, o, k, h1, h2, h3⟩⟩ | ⟨hm, ⟨b, xs, h1, h2, h3, h4, h5⟩⟩
  · refine .inl ⟨hm, ⟨b, o, k, he.get h1, h2, fun j c hc => ?_⟩⟩
    obtain ⟨x, hx, hr⟩ := h3 j c hc
    exact ⟨x, by rw [World.cell?_of_block (w := w) (hro b h2)]; exact hx, CV.rel_ext he hr⟩
  · exact .inr ⟨hm, ⟨b, xs, he.get h1, h2, by rw [hw hm b 0 _ h1]; exact h3, h4.ext he, h5⟩⟩

theorem getElem?_snoc {α : Type} {l : List α} {x y : α} {i : Nat} (h : (l ++ [x])[i]? = some y) : l[i]? = some y ∨ (i = l.length ∧ y = x) := by
  by_cases hi : i < l.length
  · rw [List.getElem?_append_left hi] at h; exact .inl h
  · rw [List.getElem?_append_right (by omega)] at h
    have : i - l.length = 0 := by
      rcases Nat.eq_zero_or_pos (i - l.length) with h0 | h0
      · exact h0
      · rw [List.getElem?_eq_none (by simp only [List.length_singleton]; omega)] at h; simp at h
    rw [this] at h; simp at h
    exact .inr ⟨by omega, h.symm⟩

/-- A new block. -/
theorem HR.alloc {B0 : Nat} {β : Beta} {H : AHeap} {w : World} (h : HR B0 β H w) (e : TypeId) (cs : List CV) (xs : List Value) (m : BM) (hm : m = .own ∨ m = .opn)
    (hc : Cells β cs (xs.take cs.length)) (hl : m = .own → xs.length = cs.length) :
    Go_ B0 β H w (β ++ [(w.heap.size, 0, xs.length)]) (H ++ [some ⟨e, cs, m⟩]) (w.alloc (.cells xs.toArray e (0, 0))) := by
  have he : Ext β (β ++ [(w.heap.size, 0, xs.length)]) := ⟨_, rfl⟩
  have hown : ∀ b, Owned (β ++ [(w.heap.size, 0, xs.length)]) (H ++ [some ⟨e, cs, m⟩]) b → Owned β H b ∨ b = w.heap.size := by
    rintro b ⟨i, blk, o, hi, hbm, k, hb⟩
    rcases getElem?_snoc hi with hi | ⟨hi, _⟩
    · have hlt : i < β.length := by rw [h.len]; exact (List.getElem?_eq_some_iff.1 hi).1
      rw [List.getElem?_append_left hlt] at hb
      exact .inl ⟨i, blk, o, hi, hbm, k, hb⟩
    · subst hi
      rw [List.getElem?_append_right (by rw [h.len]; exact Nat.le_refl _), h.len] at hb
      simp at hb
      exact .inr hb.1.symm
  refine ⟨⟨by simp [h.len], by rw [alloc_size]; have := h.base; omega, fun i blk hi => ?_, ?_, h.gi.kept ((Below.refl B0 w).alloc h.base _)⟩, he, (Below.refl B0 w).alloc h.base _, fun b hb _ => alloc_heap_lt w _ hb, fun b hb ho => (hown b ho).resolve_right (by omega)⟩
  · rcases getElem?_snoc hi with hi | ⟨hi2, hblk⟩
    · refine BlkRel.kept he (fun b hb => alloc_heap_lt w _ (by have := h.base; omega)) (fun hbm b o k hb => alloc_heap_lt w _ (h.lt ⟨i, blk, o, hi, hbm, k, hb⟩)) (h.blk i blk hi)
    · simp at hblk; subst hblk; subst hi2
      exact .inr ⟨hm, ⟨w.heap.size, xs, by rw [List.getElem?_append_right (by rw [h.len]; exact Nat.le_refl _), h.len]; simp, h.base, alloc_heap_new w _, hc.ext he, hl⟩⟩
  · intro i j bi bj b oi oj ki kj hi hj hmi hmj hbi hbj
    have key : ∀ (i : Nat) (bi : Blk) (oi ki : Nat), (H ++ [some ⟨e, cs, m⟩])[i]? = some (some bi) → (bi.m = .own ∨ bi.m = .opn) → (β ++ [(w.heap.size, 0, xs.length)])[i]? = some (b, oi, ki) → (H[i]? = some (some bi) ∧ β[i]? = some (b, oi, ki) ∧ b < w.heap.size) ∨ (i = H.length ∧ b = w.heap.size) := by
      intro i bi oi ki hi hmi hbi
      rcases getElem?_snoc hi with hi' | ⟨hi', _⟩
      · have hlt : i < β.length := by rw [h.len]; exact (List.getElem?_eq_some_iff.1 hi').1
        rw [List.getElem?_append_left hlt] at hbi
        exact .inl ⟨hi', hbi, h.lt ⟨i, bi, oi, hi', hmi, ki, hbi⟩⟩
      · subst hi'
        rw [List.getElem?_append_right (by rw [h.len]; exact Nat.le_refl _), h.len] at hbi
        simp at hbi
        exact .inr ⟨rfl, hbi.1.symm⟩
    rcases key i bi oi ki hi hmi hbi with ⟨h1, h2, h3⟩ | ⟨h1, h3⟩ <;> rcases key j bj oj kj hj hmj hbj with ⟨h4, h5, h6⟩ | ⟨h4, h6⟩
    · exact h.inj i j bi bj b oi oj ki kj h1 h4 hmi hmj h2 h5
    · omega
    · omega
    · omega

/-- The new block's address. -/
theorem HR.newAddr {B0 : Nat} {β : Beta} {H : AHeap} {w : World} (h : HR B0 β H w) (n : Nat) : AddrRel (β ++ [(w.heap.size, 0, n)]) (H.length, 0) ⟨w.heap.size, 0, none⟩ :=
  ⟨w.heap.size, 0, n, by rw [List.getElem?_append_right (by rw [h.len]; exact Nat.le_refl _), h.len]; simp, by simp⟩

/-! ### Killing an id -/
theorem HR.kill {B0 : Nat} {β : Beta} {H : AHeap} {w : World} (h : HR B0 β H w) (i : Nat) : Go_ B0 β H w β (H.set i none) w := by
  have hk : ∀ (j : Nat) (blk : Blk), (H.set i none)[j]? = some (some blk) → H[j]? = some (some blk) := by
    intro j blk hj
    by_cases hij : i = j
    · subst hij
      rw [List.getElem?_set_self'] at hj
      cases hh : H[i]? <;> simp [hh] at hj
    · rwa [List.getElem?_set_ne hij] at hj
  refine ⟨⟨by simp [h.len], h.base, fun j blk hj => h.blk j blk (hk j blk hj), fun i' j bi bj b oi oj ki kj hi hj => h.inj i' j bi bj b oi oj ki kj (hk _ _ hi) (hk _ _ hj), h.gi⟩, .refl _, .refl _ _, fun _ _ _ => rfl, ?_⟩
  rintro b _ ⟨j, blk, o, hj, hm, k, hb⟩
  exact ⟨j, blk, o, hk j blk hj, hm, k, hb⟩

/-! ### Writing -/
def setL (l : List Value) (off : Nat) (vs : List Value) : List Value := l.take off ++ vs ++ l.drop (off + vs.length)
theorem setL_len {l : List Value} {off : Nat} {vs : List Value} (h : off + vs.length ≤ l.length) : (setL l off vs).length = l.length := by
  unfold setL; simp; omega
theorem setL_cons {l : List Value} {off : Nat} {v : Value} {vs : List Value} (h : off + (vs.length + 1) ≤ l.length) : setL (l.set off v) (off + 1) vs = setL l off (v :: vs) := by
  unfold setL
  apply List.ext_getElem?
  intro j
  simp only [List.length_cons, List.getElem?_append, List.length_take, List.length_append, List.length_set, List.getElem?_take, List.getElem?_drop, List.getElem?_set]
  by_cases h1 : j < off
  · rw [if_pos (by omega), if_pos (by omega), if_pos (by omega), if_neg (by omega), if_pos (by omega), if_pos (by omega), if_pos h1]
  · by_cases h2 : j = off
    · subst h2
      rw [if_pos (by omega), if_pos (by omega), if_pos (by omega), if_pos rfl, if_pos (by omega), if_pos (by omega), if_neg (by omega)]
      simp [Nat.min_eq_left (show j ≤ l.length by omega)]
    · by_cases h3 : j < off + 1 + vs.length
      · rw [if_pos (by omega), if_neg (by omega), if_pos (by omega), if_neg (by omega)]
        rw [Nat.min_eq_left (by omega), Nat.min_eq_left (by omega)]
        rw [show j - off = (j - (off + 1)) + 1 by omega]
        simp
      · rw [if_neg (by omega), if_neg (by omega)]
        rw [Nat.min_eq_left (by omega), Nat.min_eq_left (by omega), if_neg (by omega)]
        congr 1; omega

/-- The world with block b turned. -/
def setBlk (w : World) (b : Nat) (o : Obj) : World := { w with heap := w.heap.setIfInBounds b o }
theorem setBlk_same {w : World} {b : Nat} {o : Obj} (h : b < w.heap.size) : (setBlk w b o).heap[b]? = some o := by
  simp [setBlk, h]
theorem setBlk_ne {w : World} {b k : Nat} {o : Obj} (h : b ≠ k) : (setBlk w b o).heap[k]? = w.heap[k]? := by
  simp [setBlk, Array.getElem?_setIfInBounds_ne h]
theorem setBlk_size {w : World} {b : Nat} {o : Obj} : (setBlk w b o).heap.size = w.heap.size := by simp [setBlk]

theorem setCell_setBlk {w : World} {b off : Nat} {ys : List Value} {e : TypeId} {x : Value} (h : w.heap[b]? = some (.cells ys.toArray e (0, 0))) :
    w.setCell ⟨b, off, none⟩ x = setBlk w b (.cells (ys.set off x).toArray e (0, 0)) := by
  unfold World.setCell setBlk
  have hlt : b < w.heap.size := (Array.getElem?_eq_some_iff.1 h).1
  congr 1
  apply Array.ext_getElem?
  intro j
  rw [Array.getElem?_modify, Array.getElem?_setIfInBounds]
  split
  · rename_i hj; subst hj
    rw [h]; simp
  · rfl

theorem run_storeCells {P : Program} {b off : Nat} {e : TypeId} : ∀ (xs : List Value) (i : Nat) (ys : List Value) (w : World), w.heap[b]? = some (.cells ys.toArray e (0, 0)) → off + i + xs.length ≤ ys.length →
    (∀ x ∈ xs, (∀ l, x ≠ .agg l) ∧ (∀ l, x ≠ .tuple l)) →
    (storeCells ⟨b, off, none⟩ xs i).run P w = .ok () (setBlk w b (.cells (setL ys (off + i) xs).toArray e (0, 0)))
  | [], i, ys, w, h, _, _ => by
    simp only [storeCells, Sem.run_pure]
    congr 1
    unfold setBlk
    have hlt : b < w.heap.size := (Array.getElem?_eq_some_iff.1 h).1
    have : w.heap.setIfInBounds b (.cells (setL ys (off + i) []).toArray e (0, 0)) = w.heap := by
      apply Array.ext_getElem?
      intro j
      rw [Array.getElem?_setIfInBounds]
      split
      · rename_i hj; subst hj; rw [h]; simp [setL]
      · rfl
    rw [this]
  | x :: xs, i, ys, w, h, hle, hok => by
    have hlt : b < w.heap.size := (Array.getElem?_eq_some_iff.1 h).1
    simp only [List.length_cons] at hle
    have hcell : w.cell? ⟨b, off + i, none⟩ = some (ys[off + i]'(by omega)) := by
      simp only [World.cell?, h]; simp
    have hfr : w.frozen? ⟨b, off + i, none⟩ = false := by simp [World.frozen?, h]
    obtain ⟨hx1, hx2⟩ := hok x (by simp)
    have hst : (store ((⟨b, off, none⟩ : Addr).add i) x).run P w = .ok () (setBlk w b (.cells (ys.set (off + i) x).toArray e (0, 0))) := by
      rw [add_plain, ← setCell_setBlk h]
      unfold store
      cases x with
      | agg l => exact absurd rfl (hx1 l)
      | tuple l => exact absurd rfl (hx2 l)
      | _ => simp [Sem.run, hcell, hfr]
    simp only [storeCells, Sem.run_bind, hst, Result.andThen_ok]
    rw [run_storeCells xs (i + 1) (ys.set (off + i) x) _ (setBlk_same hlt) (by simp; omega) (fun y hy => hok y (by simp [hy]))]
    rw [← Nat.add_assoc, setL_cons (by omega)]
    congr 1
    unfold setBlk
    simp

theorem Cells.set {β : Beta} {l vs : List CV} {xs ys : List Value} {off : Nat} (h : Cells β l xs) (k : Cells β vs ys) : Cells β (setAt l off vs) (setL xs off ys) := by
  unfold setAt setL
  rw [← k.1]
  exact ((h.take _).append k).append (h.drop _)
theorem setAt_len {l : List CV} {off : Nat} {vs : List CV} (h : off + vs.length ≤ l.length) : (setAt l off vs).length = l.length := by
  unfold setAt; simp; omega
theorem setL_take {l : List Value} {off n : Nat} {vs : List Value} (h : off + vs.length ≤ n) (hn : n ≤ l.length) : (setL l off vs).take n = setL (l.take n) off vs := by
  unfold setL
  apply List.ext_getElem?
  intro j
  simp only [List.getElem?_take, List.getElem?_append, List.length_append, List.length_take, List.getElem?_drop]
  by_cases hj : j < n
  · rw [if_pos hj]
    by_cases h1 : j < off
    · rw [if_pos (by omega), if_pos (by omega), if_pos h1, if_pos (by omega), if_pos (by omega), if_pos h1, if_pos hj]
    · by_cases h2 : j < off + vs.length
      · rw [if_pos (by omega), if_neg (by omega), if_pos (by omega), if_neg (by omega)]
        congr 1; omega
      · rw [if_neg (by omega), if_neg (by omega), if_pos (by omega)]
        congr 1; omega
  · rw [if_neg hj, if_neg (by omega), if_neg (by omega)]

/-- A store into a block of the call's own. -/
theorem HR.store {P : Program} {B0 : Nat} {β : Beta} {H H' : AHeap} {w : World} (h : HR B0 β H w) {p : Nat × Nat} {vs : List CV} {xs : List Value} {a : Addr} (hw : writeCells H p vs = some H') (ha : AddrRel β p a) (hc : Cells β vs xs) :
    ∃ w', (storeCells a xs).run P w = .ok () w' ∧ Go_ B0 β H w β H' w' := by
  unfold writeCells at hw
  split at hw
  case h_2 => simp at hw
  rename_i blk hg
  have hgi := get_some hg
  have hw' : (blk.m = .own ∨ blk.m = .opn) ∧ p.2 + vs.length ≤ blk.cells.length ∧ vs.all CV.ok = true ∧ H' = H.set p.1 (some { blk with cells := setAt blk.cells p.2 vs }) := by
    split at hw
    · simp at hw
    · split at hw
      · rename_i hm hle
        simp at hw
        refine ⟨?_, hle.1, hle.2, hw.symm⟩
        cases hbm : blk.m with
        | ro => exact absurd hbm hm
        | own => exact .inl rfl
        | opn => exact .inr rfl
      · simp at hw
  obtain ⟨hm, hle, hok, rfl⟩ := hw'
  rcases h.blk p.1 blk hgi with ⟨hm', _⟩ | ⟨_, ⟨b, ys, hb, hB, hh, hcs, hl⟩⟩
  · rw [hm'] at hm; simp at hm
  obtain ⟨b', o', k', hb', rfl⟩ := ha
  rw [hb] at hb'; injection hb' with hb'; injection hb' with e1 hb'; injection hb' with e2 e3
  subst e1; subst e2
  have hlen : blk.cells.length ≤ ys.length := by have := hcs.1; simp at this; omega
  have hlt : b < w.heap.size := (Array.getElem?_eq_some_iff.1 hh).1
  have hst := run_storeCells (P := P) (off := 0 + p.2) xs 0 ys w hh (by rw [← hc.1]; omega) (fun x hx => by
    obtain ⟨j, hj⟩ := List.getElem?_of_mem hx
    have hj' : j < vs.length := by rw [hc.1]; exact (List.getElem?_eq_some_iff.1 hj).1
    obtain ⟨y, h1, h2⟩ := hc.2 j vs[j] (List.getElem?_eq_getElem hj')
    rw [hj] at h1; injection h1 with h1; subst h1
    exact CV.ok_store (List.all_eq_true.1 hok _ (List.getElem_mem hj')) h2)
  refine ⟨_, hst, ?_⟩
  simp only [Nat.zero_add, Nat.add_zero]
  have hp : p.1 < H.length := (List.getElem?_eq_some_iff.1 hgi).1
  have hset : ∀ (j : Nat) (bj : Blk), (H.set p.1 (some { blk with cells := setAt blk.cells p.2 vs }))[j]? = some (some bj) → (j = p.1 ∧ bj = { blk with cells := setAt blk.cells p.2 vs }) ∨ (j ≠ p.1 ∧ H[j]? = some (some bj)) := by
    intro j bj hj
    by_cases hij : p.1 = j
    · subst hij
      rw [List.getElem?_set_self hp] at hj
      simp at hj
      exact .inl ⟨rfl, hj.symm⟩
    · rw [List.getElem?_set_ne hij] at hj
      exact .inr ⟨fun e => hij e.symm, hj⟩
  refine ⟨⟨by simp [h.len], by rw [setBlk_size]; exact h.base, fun j bj hj => ?_, ?_, h.gi.kept ⟨rfl, rfl, rfl, by rw [setBlk_size]; exact Nat.le_refl _, fun k hk => setBlk_ne (by omega)⟩⟩, .refl _, ⟨rfl, rfl, rfl, by rw [setBlk_size]; exact Nat.le_refl _, fun k hk => setBlk_ne (by omega)⟩, fun k hk hn => setBlk_ne (fun e => hn (e ▸ ⟨p.1, blk, 0, hgi, hm, _, hb⟩)), ?_⟩
  · rcases hset j bj hj with ⟨rfl, rfl⟩ | ⟨hne, hj⟩
    · refine .inr ⟨hm, ⟨b, setL ys p.2 xs, ?_, hB, setBlk_same hlt, ?_, ?_⟩⟩
      · rw [setL_len (by rw [← hc.1]; omega)]; exact hb
      · simp only
        rw [setAt_len hle, setL_take (by rw [← hc.1]; exact hle) hlen]
        exact hcs.set hc
      · intro ho
        simp only
        rw [setL_len (by rw [← hc.1]; omega), setAt_len hle]
        exact hl ho
    · refine BlkRel.kept (.refl _) (fun k hk => setBlk_ne (by omega)) (fun hbm k o n hk => setBlk_ne (fun e => ?_)) (h.blk j bj hj)
      subst e
      exact hne (h.inj j p.1 bj blk b o 0 n _ hj hgi hbm hm hk hb)
  · intro i j bi bj k oi oj ki kj hi hj hmi hmj hbi hbj
    rcases hset i bi hi with ⟨rfl, rfl⟩ | ⟨hni, hi⟩ <;> rcases hset j bj hj with ⟨rfl, rfl⟩ | ⟨hnj, hj⟩
    · rfl
    · exact (h.inj p.1 j blk bj k oi oj ki kj hgi hj hm hmj hbi hbj)
    · exact (h.inj i p.1 bi blk k oi oj ki kj hi hgi hmi hm hbi hbj)
    · exact h.inj i j bi bj k oi oj ki kj hi hj hmi hmj hbi hbj
  · rintro k _ ⟨i, bi, o, hi, hmi, n, hbi⟩
    rcases hset i bi hi with ⟨rfl, rfl⟩ | ⟨hni, hi⟩
    · exact ⟨p.1, blk, o, hgi, hm, n, hbi⟩
    · exact ⟨i, bi, o, hi, hmi, n, hbi⟩

/-- A block of the call's own, turned in place; its id is dead, a new one tells it. -/
theorem HR.grow {B0 : Nat} {β : Beta} {H : AHeap} {w : World} (h : HR B0 β H w) {i : Nat} {blk : Blk} (hg : H[i]? = some (some blk)) (hm : blk.m = .own ∨ blk.m = .opn) {b : Nat} {ys ys' : List Value} (hβ : β[i]? = some (b, 0, ys.length)) (hB : B0 ≤ b) (hh : w.heap[b]? = some (.cells ys.toArray blk.e (0, 0)))
    {cs : List CV} (hlen : ys'.length = ys.length) (hc : Cells β cs (ys'.take cs.length)) :
    Go_ B0 β H w (β ++ [(b, 0, ys.length)]) (H.set i none ++ [some ⟨blk.e, cs, .opn⟩]) (setBlk w b (.cells ys'.toArray blk.e (0, 0))) := by
  have hlt : b < w.heap.size := (Array.getElem?_eq_some_iff.1 hh).1
  have he : Ext β (β ++ [(b, 0, ys.length)]) := ⟨_, rfl⟩
  -- an id of the new heap
  have key : ∀ (j : Nat) (bj : Blk), (H.set i none ++ [some ⟨blk.e, cs, .opn⟩])[j]? = some (some bj) → (j ≠ i ∧ H[j]? = some (some bj)) ∨ (j = H.length ∧ bj = ⟨blk.e, cs, .opn⟩) := by
    intro j bj hj
    rcases getElem?_snoc hj with hj | ⟨hj, hb⟩
    · by_cases hij : i = j
      · subst hij
        rw [List.getElem?_set_self'] at hj
        cases hh : H[i]? <;> simp [hh] at hj
      · rw [List.getElem?_set_ne hij] at hj
        exact .inl ⟨fun e => hij e.symm, hj⟩
    · exact .inr ⟨by simpa using hj, by simpa using hb⟩
  have hne : ∀ (j : Nat) (bj : Blk) (k o n : Nat), j ≠ i → H[j]? = some (some bj) → (bj.m = .own ∨ bj.m = .opn) → β[j]? = some (k, o, n) → k ≠ b := by
    intro j bj k o n hji hj hmj hbj e
    subst e
    exact hji (h.inj j i bj blk k o 0 n _ hj hg hmj hm hbj hβ)
  have hbeta : ∀ (j : Nat) (x : Nat × Nat × Nat), j < H.length → (β ++ [(b, 0, ys.length)])[j]? = some x → β[j]? = some x := by
    intro j x hj hx
    rwa [List.getElem?_append_left (by rw [h.len]; exact hj)] at hx
  have hlast : (β ++ [(b, 0, ys.length)])[H.length]? = some (b, 0, ys.length) := by
    rw [List.getElem?_append_right (by rw [h.len]; exact Nat.le_refl _), h.len]; simp
  refine ⟨⟨by simp [h.len], by rw [setBlk_size]; exact h.base, fun j bj hj => ?_, ?_, h.gi.kept ⟨rfl, rfl, rfl, by rw [setBlk_size]; exact Nat.le_refl _, fun k hk => setBlk_ne (by omega)⟩⟩, he, ⟨rfl, rfl, rfl, by rw [setBlk_size]; exact Nat.le_refl _, fun k hk => setBlk_ne (by omega)⟩, fun k hk hn => setBlk_ne (fun e => hn (e ▸ ⟨i, blk, 0, hg, hm, _, hβ⟩)), ?_⟩
  · rcases key j bj hj with ⟨hji, hj⟩ | ⟨rfl, rfl⟩
    · exact BlkRel.kept he (fun k hk => setBlk_ne (by omega)) (fun hmj k o n hk => setBlk_ne (fun e => hne j bj k o n hji hj hmj hk e.symm)) (h.blk j bj hj)
    · exact .inr ⟨.inr rfl, ⟨b, ys', by rw [hlen]; exact hlast, hB, setBlk_same hlt, hc.ext he, fun e => by cases e⟩⟩
  · intro j1 j2 b1 b2 k o1 o2 n1 n2 h1 h2 hm1 hm2 e1 e2
    rcases key j1 b1 h1 with ⟨hj1, h1⟩ | ⟨hj1, h1⟩ <;> rcases key j2 b2 h2 with ⟨hj2, h2⟩ | ⟨hj2, h2⟩
    · exact h.inj j1 j2 b1 b2 k o1 o2 n1 n2 h1 h2 hm1 hm2 (hbeta _ _ (List.getElem?_eq_some_iff.1 h1).1 e1) (hbeta _ _ (List.getElem?_eq_some_iff.1 h2).1 e2)
    · subst hj2
      rw [hlast] at e2; injection e2 with e2; injection e2 with e2 _
      exact absurd e2.symm (hne j1 b1 k o1 n1 hj1 h1 hm1 (hbeta _ _ (List.getElem?_eq_some_iff.1 h1).1 e1))
    · subst hj1
      rw [hlast] at e1; injection e1 with e1; injection e1 with e1 _
      exact absurd e1.symm (hne j2 b2 k o2 n2 hj2 h2 hm2 (hbeta _ _ (List.getElem?_eq_some_iff.1 h2).1 e2))
    · omega
  · rintro k _ ⟨j, bj, o, hj, hmj, n, hbj⟩
    rcases key j bj hj with ⟨hji, hj⟩ | ⟨rfl, rfl⟩
    · exact ⟨j, bj, o, hj, hmj, n, hbeta _ _ (List.getElem?_eq_some_iff.1 hj).1 hbj⟩
    · rw [hlast] at hbj; injection hbj with hbj; injection hbj with hbj _
      subst hbj
      exact ⟨i, blk, 0, hg, hm, _, hβ⟩

end Go.Proofs.YtmockobmiagbcaaDoor.VI

set_option linter.unusedVariables false
set_option linter.unusedSimpArgs false
set_option linter.unusedSectionVars false
namespace Go.Proofs.YtmockobmiagbcaaDoor.VI
open Go Go.RowKit

def constC : Value → Option CV
  | .int k n => some (.int k n)
  | .bool b => some (.bool b)
  | .string s => some (.str s)
  | .pointer none => some (.ptr none)
  | .slice none 0 0 => some (.slice none 0 (.exact 0))
  | _ => none
def constCs : List Value → Option (List CV)
  | [] => some []
  | v :: r => match constC v, constCs r with
    | some c, some l => some (c :: l)
    | _, _ => none
def constA : Value → Option AV
  | .agg cs => (constCs cs.toList).map .agg
  | v => (constC v).map .c
def cOpd : Operand → Option Opd
  | .tmp t => some (.t t)
  | .const v => (constA v).map .k
  | .func f => some (.k (.c (.fn f [])))
  | .global _ => none
def cOpds : List Operand → Option (List Opd)
  | [] => some []
  | x :: r => match cOpd x, cOpds r with
    | some c, some l => some (c :: l)
    | _, _ => none
def cOpt : Option Operand → Option (Option Opd)
  | none => some none
  | some x => (cOpd x).map some

/-- A type's zero value's cells. -/
def zeroC (P : Program) (t : TypeId) : Option (List CV) :=
  match P.info? t with
  | some i => match i.zero with
    | some v => constCs v.cells.toList
    | none => none
  | none => none
def sizeC (P : Program) (t : TypeId) : Option Nat := (P.info? t).map (·.size)
def isAggC (P : Program) (t : TypeId) : Option Bool :=
  match P.underlying t with
  | some (.struct _) | some (.array _ _) => some true
  | some _ => some false
  | none => none

def partsC (place : Nat → Option (Nat × Nat)) : List (Nat × Operand) → Option (List (Nat × Nat × Opd))
  | [] => some []
  | (i, x) :: r => match place i, cOpd x, partsC place r with
    | some (o, n), some y, some l => some ((o, n, y) :: l)
    | _, _, _ => none
def fieldPlaces (P : Program) : List Field → Option (List (Nat × Nat))
  | [] => some []
  | f :: r => match sizeC P f.type, fieldPlaces P r with
    | some n, some l => some ((f.offset, n) :: l)
    | _, _ => none

/-- What an equality of fields asks: 'rec': of a type. -/
def eqFs (P : Program) (rec : TypeId → Option (List EqK)) : Nat → List Field → Option (List EqK)
  | _, [] => some []
  | off, f :: r => if f.name = "_" ∨ f.offset ≠ off then none else match rec f.type, isAggC P f.type, sizeC P f.type with
    | some l, some _, some s => if l.length = s then (eqFs P rec (off + s) r).map (l ++ ·) else none
    | _, _, _ => none
/-- What an equality of this type asks of its cells. -/
def eqK (P : Program) : Nat → TypeId → Option (List EqK)
  | 0, _ => none
  | d + 1, t => match P.underlying t with
    | some .bool => some [.bool]
    | some (.int _) => some [.int]
    | some .string => some [.str]
    | some (.array n e) => match eqK P d e, sizeC P e, isAggC P e with
      | some l, some s, some _ => if l.length = s then some (List.replicate n l).flatten else none
      | _, _, _ => none
    | some (.struct fs) => if P.stoodInHeld t then none else eqFs P (eqK P d) 0 fs.toList
    | _ => none

def cBinK (P : Program) (t : TypeId) : EqK :=
  match P.underlying t with
  | some .bool => .bool
  | some (.int _) => .int
  | some .string => .str
  | some (.slice _) => .slice
  | some (.pointer _) => .ptr
  | some (.array _ _) | some (.struct _) => if P.eqGuardType P.depth t then .other else match eqK P 9 t with
    | some l => .agg l
    | none => .other
  | _ => .other

def cSlot (ops : Array Oper) (j : Nat) : Option Nat := (ops[j]?).bind (·.dst)

def cOp (P : Program) : Op → Option KOp
  | .move x | .assign x => (cOpd x).map .mov
  | .pick c a b => match cOpd c, cOpd a, cOpd b with
    | some c, some a, some b => some (.pick c a b)
    | _, _, _ => none
  | .alloc e => (zeroC P e).map (.alloc e)
  | .box e x => (cOpd x).map (.box e)
  | .build t parts => match zeroC P t, P.underlying t with
    | some z, some (.struct fs) => match fieldPlaces P fs.toList with
      | some pl => (partsC (pl[·]?) parts.toList).map (.build z)
      | none => none
    | some z, some (.array _ e) => match sizeC P e with
      | some s => (partsC (fun i => some (i * s, s)) parts.toList).map (.build z)
      | none => none
    | _, _ => none
  | .buildSlice t len parts => match P.underlying t with
    | some (.slice e) => match zeroC P e, sizeC P e with
      | some z, some s => if z.length = s ∧ len * s ≤ 2 ^ 24 then (partsC (fun i => some (i * s, s)) parts.toList).map (.buildSl e len (List.replicate len z).flatten) else none
      | _, _ => none
    | _ => none
  | .load t a => match isAggC P t, sizeC P t, cOpd a with
    | some true, some n, some a => some (.loadN n a)
    | some false, _, some a => some (.load1 a)
    | _, _, _ => none
  | .store t a x => match sizeC P t, cOpd a, cOpd x with
    | some n, some a, some x => some (.store n a x)
    | _, _, _ => none
  | .nilCheck x => (cOpd x).map .nilchk
  | .binOp op t x y _ => match cOpd x, cOpd y with
    | some x, some y => some (.bin op (cBinK P t) x y)
    | _, _ => none
  | .unOp op _ x => (cOpd x).map (.un op)
  | .convert src dst x => match P.underlying src, P.underlying dst, cOpd x with
    | some (.int _), some (.int k), some x => some (.conv k x)
    | some (.slice e), some .string, some x => match P.underlying e with
      | some (.int .u8) => some (.convBS x)
      | _ => none
    | _, _, _ => none
  | .index t x i => match P.underlying t, cOpd x, cOpd i with
    | some (.array n e), some x, some i => match isAggC P e, sizeC P e with
      | some true, some s => some (.idxN n s x i)
      | some false, some 1 => some (.idx1 n x i)
      | _, _ => none
    | some .string, some x, some i => some (.idxStr x i)
    | _, _, _ => none
  | .indexAddr t x i => match P.underlying t, cOpd x, cOpd i with
    | some (.array n e), some x, some i => (sizeC P e).map fun s => .idxA n s x i
    | some (.slice e), some x, some i => (sizeC P e).map fun s => .idxS s x i
    | _, _, _ => none
  | .fieldAddr t x f => match P.underlying t, cOpd x with
    | some (.struct fs), some x => match fs[f]? with
      | some fd => match sizeC P fd.type with
        | some (_ + 1) => some (.fldA fd.offset x)
        | _ => none
      | none => none
    | _, _ => none
  | .field t x f => match P.underlying t, cOpd x with
    | some (.struct fs), some x => match fs[f]? with
      | some fd => match isAggC P fd.type, sizeC P fd.type with
        | some true, some n => some (.fldN fd.offset n x)
        | some false, some _ => some (.fld1 fd.offset x)
        | _, _ => none
      | none => none
    | _, _ => none
  | .slice t x lo hi mx => match P.underlying t, cOpd x, cOpt lo, cOpt hi, cOpt mx with
    | some (.slice e), some x, some lo, some hi, some mx => (sizeC P e).map fun s => .sliceS s x lo hi mx
    | some .string, some x, some lo, some hi, some none => some (.sliceStr x lo hi)
    | _, _, _, _, _ => none
  | .makeSlice t l c => match P.underlying t, cOpd l, cOpd c with
    | some (.slice e), some l, some c => match zeroC P e, P.info? e with
      | some z, some i => if z.length = i.size ∧ 0 < i.size then some (.mkSl e z i.bytes l c) else none
      | _, _ => none
    | _, _, _ => none
  | .makeFunc (.func f) first captured => if first.isEmpty then (cOpds captured.toList).map (.mkFn f) else none
  | .extract t ix => (cOpd t).map fun x => .ext x ix
  | .call c => match c.callee with
    | .value f => match cOpd f, cOpds c.args.toList with
      | some f, some xs => some (.call f xs)
      | _, _ => none
    | .builtin .len => match c.argTypes[0]?, c.args[0]? with
      | some t, some x => match P.underlying t, cOpd x with
        | some .string, some x => some (.len true x)
        | some (.slice _), some x => some (.len false x)
        | some (.array n _), some _ => some (.lenA n)
        | _, _ => none
      | _, _ => none
    | .builtin .append => match c.argTypes[0]?, c.argTypes[1]?, c.args.toList with
      | some t, some t2, [x, y] => match P.underlying t, P.underlying t2, cOpd x, cOpd y with
        | some (.slice e), some (.slice _), some x, some y | some (.slice e), some .string, some x, some y => match zeroC P e, P.info? e with
          | some z, some i => if z.length = i.size ∧ 0 < i.bytes ∧ 0 < i.size then some (.app e i.size i.bytes x y) else none
          | _, _ => none
        | _, _, _, _ => none
      | _, _, _ => none
    | .builtin .min => (cOpds c.args.toList).map .min
    | .builtin .max => (cOpds c.args.toList).map .max
    | _ => none
  | _ => none

def dstOk (n : Nat) : Option Tmp → Bool
  | some d => decide (d < n)
  | none => true
def cOper (P : Program) (n : Nat) (ops : Array Oper) (o : Oper) : Option KO :=
  if dstOk n o.dst = true then
    match cOp P o.op with
    | some k => match o.guard with
      | none => some ⟨o.dst, k, none⟩
      | some (j, want) => (cSlot ops j).map fun s => ⟨o.dst, k, some (s, want)⟩
    | none => none
  else none



def cOpers (P : Program) (n : Nat) (ops : Array Oper) : List Oper → Option (List KO)
  | [] => some []
  | o :: r => match cOper P n ops o, cOpers P n ops r with
    | some k, some l => some (k :: l)
    | _, _ => none

/-! ### A region that draws its order -/
inductive Kind where
  | A | H | L | P
/-- A: makes a block out of its slots; H: calls, writes; L: reads memory; P: looks at its slots alone. -/
def KOp.kind : KOp → Kind
  | .alloc _ _ | .box _ _ | .buildSl _ _ _ _ => .A
  | .store _ _ _ | .mkSl _ _ _ _ _ | .app _ _ _ _ _ | .call _ _ => .H
  | .load1 _ | .loadN _ _ | .convBS _ => .L
  | _ => .P
def Kind.isE : Kind → Bool
  | .A | .H => true
  | _ => false
def Kind.isA : Kind → Bool
  | .A => true
  | _ => false
def Kind.isH : Kind → Bool
  | .H => true
  | _ => false
def Kind.isL : Kind → Bool
  | .L => true
  | _ => false
def Opd.lk : Opd → List Nat
  | .t n => [n]
  | .k _ => []
def lkO : Option Opd → List Nat
  | some x => x.lk
  | none => []
def lks (l : List Opd) : List Nat := l.flatMap Opd.lk
def lkParts (l : List (Nat × Nat × Opd)) : List Nat := l.flatMap fun p => p.2.2.lk
/-- The slots that are looked at. -/
def KOp.lk : KOp → List Nat
  | .mov x => x.lk
  | .pick c a b => c.lk ++ (a.lk ++ b.lk)
  | .alloc _ _ => []
  | .box _ x => x.lk
  | .build _ p => lkParts p
  | .buildSl _ _ _ p => lkParts p
  | .load1 a => a.lk
  | .loadN _ a => a.lk
  | .store _ a x => a.lk ++ x.lk
  | .nilchk x => x.lk
  | .bin _ _ x y => x.lk ++ y.lk
  | .un _ x => x.lk
  | .conv _ x => x.lk
  | .convBS x => x.lk
  | .idxN _ _ x i => x.lk ++ i.lk
  | .idx1 _ x i => x.lk ++ i.lk
  | .idxStr x i => x.lk ++ i.lk
  | .idxA _ _ x i => x.lk ++ i.lk
  | .idxS _ x i => x.lk ++ i.lk
  | .fldA _ x => x.lk
  | .fldN _ _ x => x.lk
  | .fld1 _ x => x.lk
  | .sliceS _ x a b c => x.lk ++ (lkO a ++ (lkO b ++ lkO c))
  | .sliceStr x a b => x.lk ++ (lkO a ++ lkO b)
  | .mkSl _ _ _ l c => l.lk ++ c.lk
  | .mkFn _ c => lks c
  | .ext x _ => x.lk
  | .len _ x => x.lk
  | .lenA _ => []
  | .app _ _ _ x y => x.lk ++ y.lk
  | .min xs => lks xs
  | .max xs => lks xs
  | .call f xs => f.lk ++ lks xs
def KO.lk (o : KO) : List Nat := (match o.g with | some (j, _) => [j] | none => []) ++ o.op.lk

def depsO (o : Oper) : List Nat := (o.after.toList.filter (Region.binds .any ·)).map (·.on)
def maskOf (acc : List Nat) (ds : List Nat) : Nat := ds.foldl (fun m d => m ||| 2 ^ d ||| acc.getD d 0) 0
/-- Of each operation: those that it waits for, by bits. -/
def ancsOf (l : List Oper) : List Nat := l.foldl (fun acc o => acc ++ [maskOf acc (depsO o)]) []

/-- A region to be told. -/
structure Rg where
  ops : Array Oper
  ks : List KO
  an : List Nat
  s : List Nat
namespace Rg
def N (r : Rg) : Nat := r.ops.size
def oper (r : Rg) (i : Nat) : Oper := r.ops.getD i default
def ko (r : Rg) (i : Nat) : KO := r.ks.getD i ⟨none, .lenA 0, none⟩
def kind (r : Rg) (i : Nat) : Kind := (r.ko i).op.kind
def deps (r : Rg) (i : Nat) : List Nat := depsO (r.oper i)
def lk (r : Rg) (i : Nat) : List Nat := (r.ko i).lk ++ (r.oper i).looksAt r.ops
/-- i waits for j's sake. -/
def lt (r : Rg) (i j : Nat) : Bool := (r.an.getD j 0).testBit i
def dst (r : Rg) (i : Nat) : Option Nat := (r.ko i).dst
def looksA (r : Rg) (i : Nat) : Bool := (List.range r.N).any fun k => (r.kind k).isA && (match r.dst k with | some t => (r.lk i).contains t | none => false)
def sync (r : Rg) (i : Nat) : Bool := (r.kind i).isH || (r.kind i).isL || r.looksA i
def ix (r : Rg) (p : Nat) : Nat := r.s.getD p 0
def ok (r : Rg) : Bool :=
  (r.s.length == r.N && (List.range r.N).all fun i => r.s.contains i) &&
  ((List.range r.N).all fun p => decide (r.ix p < r.N) && !(r.s.take p).contains (r.ix p) && (r.deps (r.ix p)).all fun d => (r.s.take p).contains d) &&
  ((List.range r.N).all fun p => !r.sync (r.ix p) || (r.s.take p).all fun q => !(r.kind q).isE || r.lt q (r.ix p)) &&
  ((List.range r.N).all fun i => (List.range r.N).all fun k => match r.dst k with
    | none => true
    | some t => (i == k || r.dst i != some t) && (!(r.lk i).contains t || (if i = k then !(r.kind i).isL else r.lt k i || (r.lt i k && !(r.kind i).isL)))) &&
  ((List.range r.N).all fun i => !(r.kind i).isL || (r.dst i).isSome)
def step (r : Rg) (p : Nat) : KO × List KO :=
  (r.ko (r.ix p), if (r.kind (r.ix p)).isE then ((r.s.take p).filter fun l => (r.kind l).isL && !r.lt l (r.ix p)).map r.ko else [])
def steps (r : Rg) : List (KO × List KO) := (List.range r.N).map r.step

/-- An order: what only looks, first; what makes a block, last. -/
def pickNext (r : Rg) (pre rem : List Nat) : Option Nat :=
  let ready := rem.filter fun i => (r.deps i).all fun d => pre.contains d
  match ready.find? fun i => !(r.kind i).isE with
  | some i => some i
  | none => match ready.find? fun i => (r.kind i).isH with
    | some i => some i
    | none => match rem.find? fun i => (r.kind i).isH with
      | some h => match ready.find? fun i => r.lt i h with
        | some i => some i
        | none => ready.head?
      | none => ready.head?
def order (r : Rg) : Nat → List Nat → List Nat → List Nat
  | 0, pre, _ => pre
  | f + 1, pre, rem => match r.pickNext pre rem with
    | some i => r.order f (pre ++ [i]) (rem.filter fun j => j != i)
    | none => pre
end Rg

def cDrawn (P : Program) (n : Nat) (ops : Array Oper) : Option KC :=
  match cOpers P n ops ops.toList with
  | some ks =>
    let r0 : Rg := ⟨ops, ks, ancsOf ops.toList, []⟩
    let r : Rg := { r0 with s := r0.order ops.size [] (List.range ops.size) }
    if r.ok = true then some (.drawn r.steps) else none
  | none => none

def cCode (P : Program) (n : Nat) : Code → Option KC
  | .skip => some .skip
  | .region _ ops false => (cOpers P n ops ops.toList).map .region
  | .region _ ops true => cDrawn P n ops
  | .seq a b => match cCode P n a, cCode P n b with
    | some a, some b => some (.seq a b)
    | _, _ => none
  | .cond c a b => match cOpd c, cCode P n a, cCode P n b with
    | some c, some a, some b => some (.cond c a b)
    | _, _, _ => none
  | .block id c => (cCode P n c).map (.block id)
  | .loop c => (cCode P n c).map .loop
  | .exit id => some (.exit id)
  | .ret => some .ret
  | _ => none

def cRes (P : Program) : List ResultVar → Option (List KR)
  | [] => some []
  | .tmp t :: r => (cRes P r).map (.tmp t :: ·)
  | .cell t ty :: r => match isAggC P ty, sizeC P ty, cRes P r with
    | some true, some n, some l => some (.cellN t n :: l)
    | some false, some _, some l => some (.cell1 t :: l)
    | _, _, _ => none

def cFunc (P : Program) (gc : Bool) (f : FuncId) : Option KF :=
  match P.funcs[f]? with
  | some fn => if fn.name == "runtime.NumGoroutine" then none else match fn.body with
    | some c => match cCode P fn.ntmps c, cRes P fn.results.toList with
      | some k, some r => some ⟨fn.ntmps, k, r, gc⟩
      | _, _ => none
    | none => none
  | none => none

end Go.Proofs.YtmockobmiagbcaaDoor.VI
