/- An interpreter over an abstract heap, and its soundness over the machine: part Base. -/
import Derived.Calls
import Derived.LoopN
import Derived.Orders
import Derived.Below
import Derived.Laws.Sem
import Derived.Laws.World
import Derived.Deep.Draws
set_option linter.unusedVariables false
set_option linter.unusedSimpArgs false
set_option linter.unusedSectionVars false
namespace Go.Proofs.Ytebdajfangbdpaa.VI
open Go Go.RowKit

/-! ### Values of the abstract machine: blocks are told by ids -/

/-- What is known of a slice's capacity: the number; that it goes to its block's end (the element's cells); nothing. -/
inductive Cap where
  | exact (k : Nat)
  | toEnd (size : Nat)
  | any

inductive CV where
  | int (k : IntKind) (n : Int)
  | bool (b : Bool)
  | str (s : ByteArray)
  | ptr (a : Option (Nat × Nat))
  | slice (a : Option (Nat × Nat)) (len : Nat) (cap : Cap)
  | fn (f : FuncId) (caps : List (Nat × Nat))
  | undef
instance : Inhabited CV := ⟨.undef⟩

inductive V0 where
  | c (v : CV)
  | agg (cs : List CV)

inductive AV where
  | c (v : CV)
  | agg (cs : List CV)
  | tup (vs : List V0)
instance : Inhabited AV := ⟨.c .undef⟩

def V0.toAV : V0 → AV
  | .c v => .c v
  | .agg cs => .agg cs
def AV.toV0? : AV → Option V0
  | .c v => some (.c v)
  | .agg cs => some (.agg cs)
  | .tup _ => none
def AV.cells? : AV → Option (List CV)
  | .c v => some [v]
  | .agg cs => some cs
  | .tup _ => none

abbrev AV.i64 (n : Int) : AV := .c (.int .i64 n)
abbrev AV.b (x : Bool) : AV := .c (.bool x)

/-! ### The abstract heap -/
inductive BM where
  | ro | own | opn
structure Blk where
  e : TypeId
  cells : List CV
  m : BM
abbrev AHeap := List (Option Blk)
def AHeap.get (H : AHeap) (i : Nat) : Option Blk := (H[i]?).join

/-! ### The relation between abstract and concrete values -/
/-- Of each id: the block, where it begins in it, and how many cells the block has. -/
abbrev Beta := List (Nat × Nat × Nat)

def AddrRel (β : Beta) (p : Nat × Nat) (a : Addr) : Prop := ∃ b o k, β[p.1]? = some (b, o, k) ∧ a = ⟨b, o + p.2, none⟩

/-- Does the address of such a slice count? -/
def needsAddr (l : Nat) : Cap → Bool
  | .exact k => decide (0 < l) || decide (0 < k)
  | .toEnd _ => true
  | .any => decide (0 < l)
def CapRel (β : Beta) (p : Nat × Nat) (c : Nat) : Cap → Prop
  | .exact k => c = k
  | .toEnd sz => ∃ b o k, β[p.1]? = some (b, o, k) ∧ p.2 + c * sz = k
  | .any => True

def CV.rel (β : Beta) : CV → Value → Prop
  | .int k n, v => v = .int k n
  | .bool b, v => v = .bool b
  | .str s, v => v = .string s
  | .ptr none, v => v = .pointer none
  | .ptr (some p), v => ∃ a, AddrRel β p a ∧ v = .pointer (some a)
  | .slice none l _, v => l = 0 ∧ v = .slice none 0 0
  | .slice (some p) l cap, v => ∃ a c, (needsAddr l cap = true → AddrRel β p a) ∧ (needsAddr l cap = true → a.spot = none) ∧ v = .slice (some a) l c ∧ l ≤ c ∧ CapRel β p c cap
  | .fn f caps, v => ∃ cs : List Value, v = .func (.func f) #[] cs.toArray ∧ cs.length = caps.length ∧ ∀ (j : Nat) (p : Nat × Nat), caps[j]? = some p → ∃ a : Addr, AddrRel β p a ∧ cs[j]? = some (Value.pointer (some a))
  | .undef, v => v = Go.undef

/-- Cell by cell. -/
def Cells (β : Beta) (cs : List CV) (xs : List Value) : Prop := cs.length = xs.length ∧ ∀ (j : Nat) (c : CV), cs[j]? = some c → ∃ x, xs[j]? = some x ∧ c.rel β x

def V0.rel (β : Beta) : V0 → Value → Prop
  | .c v, x => v.rel β x
  | .agg cs, x => ∃ xs : List Value, x = .agg xs.toArray ∧ Cells β cs xs

def AV.rel (β : Beta) : AV → Value → Prop
  | .c v, x => v.rel β x
  | .agg cs, x => ∃ xs : List Value, x = .agg xs.toArray ∧ Cells β cs xs
  | .tup vs, x => ∃ xs : List Value, x = .tuple xs.toArray ∧ vs.length = xs.length ∧ ∀ (j : Nat) (v : V0), vs[j]? = some v → ∃ y, xs[j]? = some y ∧ v.rel β y

/-! Extending the map -/
def Ext (β β' : Beta) : Prop := ∃ t, β' = β ++ t
theorem Ext.refl (β : Beta) : Ext β β := ⟨[], by simp⟩
theorem Ext.trans {a b c : Beta} (h : Ext a b) (k : Ext b c) : Ext a c := by
  obtain ⟨t, rfl⟩ := h; obtain ⟨s, rfl⟩ := k; exact ⟨t ++ s, by simp⟩
theorem Ext.get {a b : Beta} (h : Ext a b) {i : Nat} {x : Nat × Nat × Nat} (k : a[i]? = some x) : b[i]? = some x := by
  obtain ⟨t, rfl⟩ := h
  have : i < a.length := (List.getElem?_eq_some_iff.1 k).1
  rw [List.getElem?_append_left this]; exact k
theorem Ext.len {a b : Beta} (h : Ext a b) : a.length ≤ b.length := by obtain ⟨t, rfl⟩ := h; simp
theorem Ext.get_lt {a b : Beta} (h : Ext a b) {i : Nat} (hi : i < a.length) : b[i]? = a[i]? := by
  obtain ⟨t, rfl⟩ := h; exact List.getElem?_append_left hi
theorem AddrRel.ext {β β' : Beta} (h : Ext β β') {p : Nat × Nat} {a : Addr} (k : AddrRel β p a) : AddrRel β' p a := by
  obtain ⟨b, o, n, h1, h2⟩ := k; exact ⟨b, o, n, h.get h1, h2⟩
theorem CapRel.ext {β β' : Beta} (h : Ext β β') {p : Nat × Nat} {c : Nat} {cap : Cap} (k : CapRel β p c cap) : CapRel β' p c cap := by
  cases cap with
  | toEnd sz => obtain ⟨b, o, n, h1, h2⟩ := k; exact ⟨b, o, n, h.get h1, h2⟩
  | _ => exact k
theorem CV.rel_ext {β β' : Beta} (h : Ext β β') {v : CV} {x : Value} (k : v.rel β x) : v.rel β' x := by
  cases v with
  | ptr a =>
    cases a with
    | none => exact k
    | some p => obtain ⟨a, h1, h2⟩ := k; exact ⟨a, h1.ext h, h2⟩
  | slice a l cap =>
    cases a with
    | none => exact k
    | some p => obtain ⟨a, c, h1, h2, h3, h4, h5⟩ := k; exact ⟨a, c, fun hl => (h1 hl).ext h, h2, h3, h4, h5.ext h⟩
  | fn f caps =>
    obtain ⟨cs, h1, h2, h3⟩ := k
    exact ⟨cs, h1, h2, fun j p hp => by obtain ⟨a, h4, h5⟩ := h3 j p hp; exact ⟨a, h4.ext h, h5⟩⟩
  | _ => exact k
theorem Cells.ext {β β' : Beta} (h : Ext β β') {cs : List CV} {xs : List Value} (k : Cells β cs xs) : Cells β' cs xs :=
  ⟨k.1, fun j c hc => by obtain ⟨x, h1, h2⟩ := k.2 j c hc; exact ⟨x, h1, CV.rel_ext h h2⟩⟩
theorem V0.rel_ext {β β' : Beta} (h : Ext β β') {v : V0} {x : Value} (k : v.rel β x) : v.rel β' x := by
  cases v with
  | c v => exact CV.rel_ext h k
  | agg cs => obtain ⟨xs, h1, h2⟩ := k; exact ⟨xs, h1, h2.ext h⟩
theorem AV.rel_ext {β β' : Beta} (h : Ext β β') {v : AV} {x : Value} (k : v.rel β x) : v.rel β' x := by
  cases v with
  | c v => exact CV.rel_ext h k
  | agg cs => obtain ⟨xs, h1, h2⟩ := k; exact ⟨xs, h1, h2.ext h⟩
  | tup vs => obtain ⟨xs, h1, h2, h3⟩ := k; exact ⟨xs, h1, h2, fun j v hv => by obtain ⟨y, h4, h5⟩ := h3 j v hv; exact ⟨y, h4, V0.rel_ext h h5⟩⟩

/-- No addresses at all. -/
def CV.plain : CV → Bool
  | .int _ _ | .bool _ | .str _ | .ptr none | .slice none _ _ | .undef => true
  | .fn _ caps => caps.isEmpty
  | _ => false
def V0.plain : V0 → Bool
  | .c v => v.plain
  | .agg cs => cs.all CV.plain
def AV.plain : AV → Bool
  | .c v => v.plain
  | .agg cs => cs.all CV.plain
  | .tup vs => vs.all V0.plain
theorem CV.plain_rel {β β' : Beta} {v : CV} {x : Value} (hp : v.plain = true) (k : v.rel β x) : v.rel β' x := by
  cases v with
  | ptr a => cases a with | none => exact k | some p => simp [CV.plain] at hp
  | slice a l cap => cases a with | none => exact k | some p => simp [CV.plain] at hp
  | fn f caps =>
    obtain ⟨cs, h1, h2, h3⟩ := k
    simp [CV.plain] at hp; subst hp
    exact ⟨cs, h1, h2, fun j p hp => by simp at hp⟩
  | _ => exact k
theorem Cells.plain {β β' : Beta} {cs : List CV} {xs : List Value} (hp : cs.all CV.plain = true) (k : Cells β cs xs) : Cells β' cs xs :=
  ⟨k.1, fun j c hc => by obtain ⟨x, h1, h2⟩ := k.2 j c hc; exact ⟨x, h1, CV.plain_rel (List.all_eq_true.1 hp _ (List.mem_of_getElem? hc)) h2⟩⟩
theorem V0.plain_rel {β β' : Beta} {v : V0} {x : Value} (hp : v.plain = true) (k : v.rel β x) : v.rel β' x := by
  cases v with
  | c v => exact CV.plain_rel hp k
  | agg cs => obtain ⟨xs, h1, h2⟩ := k; exact ⟨xs, h1, h2.plain hp⟩
theorem AV.plain_rel {β β' : Beta} {v : AV} {x : Value} (hp : v.plain = true) (k : v.rel β x) : v.rel β' x := by
  cases v with
  | c v => exact CV.plain_rel hp k
  | agg cs => obtain ⟨xs, h1, h2⟩ := k; exact ⟨xs, h1, h2.plain hp⟩
  | tup vs => obtain ⟨xs, h1, h2, h3⟩ := k; exact ⟨xs, h1, h2, fun j v hv => by obtain ⟨y, h4, h5⟩ := h3 j v hv; exact ⟨y, h4, V0.plain_rel (List.all_eq_true.1 hp _ (List.mem_of_getElem? hv)) h5⟩⟩

/-- All ids are below n. -/
def CV.validIn (n : Nat) : CV → Bool
  | .ptr (some p) => decide (p.1 < n)
  | .slice (some p) l cap => !needsAddr l cap || decide (p.1 < n)
  | .fn _ caps => caps.all fun p => decide (p.1 < n)
  | _ => true
theorem AddrRel.valid {β β' : Beta} (h : Ext β β') {p : Nat × Nat} {a : Addr} (hp : p.1 < β.length) (k : AddrRel β' p a) : AddrRel β p a := by
  obtain ⟨b, o, n, h1, h2⟩ := k
  exact ⟨b, o, n, by rw [← h.get_lt hp]; exact h1, h2⟩
theorem CapRel.valid {β β' : Beta} (h : Ext β β') {p : Nat × Nat} {c : Nat} {cap : Cap} (hp : (∃ sz, cap = .toEnd sz) → p.1 < β.length) (k : CapRel β' p c cap) : CapRel β p c cap := by
  cases cap with
  | toEnd sz => obtain ⟨b, o, n, h1, h2⟩ := k; exact ⟨b, o, n, by rw [← h.get_lt (hp ⟨_, rfl⟩)]; exact h1, h2⟩
  | _ => exact k
theorem CV.valid_rel {β β' : Beta} (h : Ext β β') {v : CV} {x : Value} (hv : v.validIn β.length = true) (k : v.rel β' x) : v.rel β x := by
  cases v with
  | ptr a =>
    cases a with
    | none => exact k
    | some p => obtain ⟨a, h1, h2⟩ := k; exact ⟨a, h1.valid h (by simpa [CV.validIn] using hv), h2⟩
  | slice a l cap =>
    cases a with
    | none => exact k
    | some p =>
      obtain ⟨a, c, h1, h2, h3, h4, h5⟩ := k
      have hp : needsAddr l cap = true → p.1 < β.length := fun hn => by simpa [CV.validIn, hn] using hv
      exact ⟨a, c, fun hl => (h1 hl).valid h (hp hl), h2, h3, h4, h5.valid h (fun ⟨sz, e⟩ => hp (by rw [e]; rfl))⟩
  | fn f caps =>
    obtain ⟨cs, h1, h2, h3⟩ := k
    simp [CV.validIn] at hv
    exact ⟨cs, h1, h2, fun j p hp => by
      obtain ⟨a, h4, h5⟩ := h3 j p hp
      exact ⟨a, h4.valid h (hv _ _ (List.mem_of_getElem? hp)), h5⟩⟩
  | _ => exact k

/-! ### The heap's relation -/
/-- Concrete block b is one that the abstract heap owns. -/
def Owned (β : Beta) (H : AHeap) (b : Nat) : Prop := ∃ (i : Nat) (blk : Blk) (o : Nat), H[i]? = some (some blk) ∧ (blk.m = .own ∨ blk.m = .opn) ∧ ∃ k, β[i]? = some (b, o, k)

structure RoRel (B0 : Nat) (β : Beta) (w : World) (i : Nat) (blk : Blk) : Prop where
  at_ : ∃ b o k, β[i]? = some (b, o, k) ∧ b < B0 ∧ ∀ (j : Nat) (c : CV), blk.cells[j]? = some c → ∃ x, w.cell? ⟨b, o + j, none⟩ = some x ∧ c.rel β x

structure OwnRel (B0 : Nat) (β : Beta) (w : World) (i : Nat) (blk : Blk) : Prop where
  at_ : ∃ (b : Nat) (xs : List Value), β[i]? = some (b, 0, xs.length) ∧ B0 ≤ b ∧ w.heap[b]? = some (.cells xs.toArray blk.e (0, 0)) ∧ Cells β blk.cells (xs.take blk.cells.length) ∧ (blk.m = .own → xs.length = blk.cells.length)

def BlkRel (B0 : Nat) (β : Beta) (w : World) (i : Nat) (blk : Blk) : Prop :=
  (blk.m = .ro ∧ RoRel B0 β w i blk) ∨ ((blk.m = .own ∨ blk.m = .opn) ∧ OwnRel B0 β w i blk)

structure HR (B0 : Nat) (β : Beta) (H : AHeap) (w : World) : Prop where
  len : β.length = H.length
  base : B0 ≤ w.heap.size
  blk : ∀ (i : Nat) (blk : Blk), H[i]? = some (some blk) → BlkRel B0 β w i blk
  inj : ∀ (i j : Nat) (bi bj : Blk) (b oi oj ki kj : Nat), H[i]? = some (some bi) → H[j]? = some (some bj) → (bi.m = .own ∨ bi.m = .opn) → (bj.m = .own ∨ bj.m = .opn) → β[i]? = some (b, oi, ki) → β[j]? = some (b, oj, kj) → i = j

/-- From (β, H, w) to (β', H', w'). -/
structure Go_ (B0 : Nat) (β : Beta) (H : AHeap) (w : World) (β' : Beta) (H' : AHeap) (w' : World) : Prop where
  hr : HR B0 β' H' w'
  ext : Ext β β'
  below : Below B0 w w'
  fr : ∀ b, b < w.heap.size → ¬ Owned β H b → w'.heap[b]? = w.heap[b]?
  sub : ∀ b, b < w.heap.size → Owned β' H' b → Owned β H b

theorem Go_.refl {B0 : Nat} {β : Beta} {H : AHeap} {w : World} (h : HR B0 β H w) : Go_ B0 β H w β H w :=
  ⟨h, .refl _, .refl _ _, fun _ _ _ => rfl, fun _ _ h => h⟩
theorem Go_.trans {B0 : Nat} {β : Beta} {H : AHeap} {w : World} {β1 : Beta} {H1 : AHeap} {w1 : World} {β2 : Beta} {H2 : AHeap} {w2 : World}
    (a : Go_ B0 β H w β1 H1 w1) (b : Go_ B0 β1 H1 w1 β2 H2 w2) : Go_ B0 β H w β2 H2 w2 :=
  ⟨b.hr, a.ext.trans b.ext, a.below.trans b.below,
   fun x hx hn => by
    have h1 := Nat.lt_of_lt_of_le hx a.below.size
    rw [b.fr x h1 (fun ho => hn (a.sub x hx ho)), a.fr x hx hn],
   fun x hx ho => a.sub x hx (b.sub x (Nat.lt_of_lt_of_le hx a.below.size) ho)⟩

/-- A draw. -/
theorem HR.drewN {B0 : Nat} {β : Beta} {H : AHeap} {w : World} (h : HR B0 β H w) (n : Nat) : HR B0 β H (w.drewN n) :=
  ⟨h.len, h.base, fun i blk hb => by
    rcases h.blk i blk hb with ⟨hm, ⟨x⟩⟩ | ⟨hm, ⟨x⟩⟩
    · exact .inl ⟨hm, ⟨x⟩⟩
    · exact .inr ⟨hm, ⟨x⟩⟩, h.inj⟩
theorem Go_.drewN {B0 : Nat} {β : Beta} {H : AHeap} {w : World} (h : HR B0 β H w) (n : Nat) : Go_ B0 β H w β H (w.drewN n) :=
  ⟨h.drewN n, .refl _, ⟨rfl, rfl, rfl, Nat.le_refl _, fun _ _ => rfl⟩, fun _ _ _ => rfl, fun _ _ h => h⟩

end Go.Proofs.Ytebdajfangbdpaa.VI
