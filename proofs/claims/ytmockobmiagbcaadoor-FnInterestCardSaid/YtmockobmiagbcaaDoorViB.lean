/- An interpreter over an abstract heap, and its soundness over the machine: part B. -/
import Derived.Test.YtmockobmiagbcaaDoorViA
import Derived.Laws.Entries
import Derived.ChangeKeysEq
import Derived.DeepKeys
import Derived.Laws.StructEq
import Derived.IntWalk
set_option linter.unusedVariables false
set_option linter.unusedSimpArgs false
set_option linter.unusedSectionVars false
namespace Go.Proofs.YtmockobmiagbcaaDoor.VI
open Go Go.RowKit

structure SR (β : Beta) (σ : Sl) (a : Act) : Prop where
  at_ : ∀ i, (σ i).rel β (a.tmps.getD i Go.undef)

theorem SR.ext {β β' : Beta} {σ : Sl} {a : Act} (h : SR β σ a) (he : Ext β β') : SR β' σ a := ⟨fun i => AV.rel_ext he (h.at_ i)⟩

theorem SR.put {β : Beta} {σ : Sl} {a : Act} (h : SR β σ a) {d : Option Nat} {v : AV} {x : Value} (hd : ∀ k, d = some k → k < a.tmps.size) (hv : v.rel β x) : SR β (putS σ d v) (a.put d x) := by
  cases d with
  | none => exact h
  | some k =>
    refine ⟨fun i => ?_⟩
    have hk := hd k rfl
    simp only [putS, upd, Act.put, Array.getD_eq_getD_getElem?, Array.getElem?_setIfInBounds]
    by_cases hi : i = k
    · subst hi; simp [hk, hv]
    · rw [if_neg hi, if_neg (fun e => hi e.symm)]
      have := h.at_ i
      simpa using this

theorem put_size {a : Act} {d : Option Nat} {x : Value} : (a.put d x).tmps.size = a.tmps.size := by
  cases d <;> simp [Act.put]

/-! ### Operands -/
theorem constC_rel {β : Beta} {v : Value} {c : CV} (h : constC v = some c) : c.rel β v := by
  unfold constC at h
  split at h <;> simp at h <;> subst h <;> simp [CV.rel]
theorem constCs_rel {β : Beta} : ∀ {vs : List Value} {cs : List CV}, constCs vs = some cs → Cells β cs vs
  | [], cs, h => by simp [constCs] at h; subst h; exact Cells.nil β
  | v :: r, cs, h => by
    simp only [constCs] at h
    split at h
    · rename_i c l hc hl
      simp at h; subst h
      exact Cells.cons (constC_rel hc) (constCs_rel hl)
    · simp at h
theorem constA_rel {β : Beta} {v : Value} {c : AV} (h : constA v = some c) : c.rel β v := by
  unfold constA at h
  split at h
  · rename_i cs
    simp at h; obtain ⟨l, hl, rfl⟩ := h
    exact ⟨cs.toList, by simp, constCs_rel hl⟩
  · simp at h; obtain ⟨l, hl, rfl⟩ := h
    exact constC_rel hl
theorem cOpd_rel {β : Beta} {σ : Sl} {a : Act} (hs : SR β σ a) {x : Operand} {y : Opd} (h : cOpd x = some y) : (y.ev σ).rel β (a.eval x) := by
  cases x with
  | tmp t => simp [cOpd] at h; subst h; exact hs.at_ t
  | const v => simp [cOpd] at h; obtain ⟨c, hc, rfl⟩ := h; exact constA_rel hc
  | func f => simp [cOpd] at h; subst h; exact ⟨[], rfl, rfl, fun j p hp => by simp at hp⟩
  | global g => simp [cOpd] at h

/-- A list of values. -/
def Vals (β : Beta) (vs : List AV) (xs : List Value) : Prop := vs.length = xs.length ∧ ∀ (j : Nat) (v : AV), vs[j]? = some v → ∃ x, xs[j]? = some x ∧ v.rel β x
theorem Vals.nil (β : Beta) : Vals β [] [] := ⟨rfl, fun j c h => by simp at h⟩
theorem Vals.cons {β : Beta} {v : AV} {x : Value} {vs : List AV} {xs : List Value} (h : v.rel β x) (k : Vals β vs xs) : Vals β (v :: vs) (x :: xs) :=
  ⟨by simp [k.1], fun j c hc => by
    cases j with
    | zero => simp at hc; subst hc; exact ⟨x, rfl, h⟩
    | succ j => exact k.2 j c (by simpa using hc)⟩
theorem Vals.append {β : Beta} {a b : List AV} {x y : List Value} (h : Vals β a x) (k : Vals β b y) : Vals β (a ++ b) (x ++ y) := by
  refine ⟨by simp [h.1, k.1], fun j c hc => ?_⟩
  by_cases hj : j < a.length
  · rw [List.getElem?_append_left hj] at hc
    obtain ⟨u, h1, h2⟩ := h.2 j c hc
    exact ⟨u, by rw [List.getElem?_append_left (by rw [← h.1]; exact hj)]; exact h1, h2⟩
  · rw [List.getElem?_append_right (by omega)] at hc
    obtain ⟨u, h1, h2⟩ := k.2 _ c hc
    exact ⟨u, by rw [List.getElem?_append_right (by rw [← h.1]; omega), ← h.1]; exact h1, h2⟩
theorem Vals.cons_inv {β : Beta} {v : AV} {vs : List AV} {xs : List Value} (k : Vals β (v :: vs) xs) : ∃ x xs', xs = x :: xs' ∧ v.rel β x ∧ Vals β vs xs' := by
  cases xs with
  | nil => have := k.1; simp at this
  | cons x xs' =>
    obtain ⟨y, h1, h2⟩ := k.2 0 v rfl
    simp at h1; subst h1
    exact ⟨x, xs', rfl, h2, by have := k.1; simpa using this, fun j d hd => by
      obtain ⟨z, h3, h4⟩ := k.2 (j + 1) d (by simpa using hd)
      exact ⟨z, by simpa using h3, h4⟩⟩
theorem cOpds_rel {β : Beta} {σ : Sl} {a : Act} (hs : SR β σ a) : ∀ {xs : List Operand} {ys : List Opd}, cOpds xs = some ys → Vals β (ys.map (Opd.ev σ)) (xs.map a.eval)
  | [], ys, h => by simp [cOpds] at h; subst h; exact Vals.nil β
  | x :: r, ys, h => by
    simp only [cOpds] at h
    split at h
    · rename_i c l hc hl
      simp at h; subst h
      exact Vals.cons (cOpd_rel hs hc) (cOpds_rel hs hl)
    · simp at h

/-! ### What a value's form tells of its partner -/
theorem rel_int {β : Beta} {k : IntKind} {n : Int} {x : Value} (h : (AV.c (.int k n)).rel β x) : x = .int k n := h
theorem rel_bool {β : Beta} {b : Bool} {x : Value} (h : (AV.c (.bool b)).rel β x) : x = .bool b := h
theorem rel_str {β : Beta} {s : ByteArray} {x : Value} (h : (AV.c (.str s)).rel β x) : x = .string s := h
theorem rel_ptr {β : Beta} {p : Nat × Nat} {x : Value} (h : (AV.c (.ptr (some p))).rel β x) : ∃ a, AddrRel β p a ∧ x = .pointer (some a) := h
theorem rel_agg {β : Beta} {cs : List CV} {x : Value} (h : (AV.agg cs).rel β x) : ∃ xs : List Value, x = .agg xs.toArray ∧ Cells β cs xs := h

/-! ### Types -/
theorem run_size {P : Program} {t : TypeId} {n : Nat} (h : sizeC P t = some n) (w : World) : (sizeOf t).run P w = .ok n w := by
  unfold sizeC at h
  cases hi : P.info? t with
  | none => simp [hi] at h
  | some i => simp [hi] at h; subst h; simp [sizeOf, typeInfo, hi]
theorem run_isAgg {P : Program} {t : TypeId} {b : Bool} (h : isAggC P t = some b) (w : World) : (isAgg t).run P w = .ok b w := by
  unfold isAggC at h
  split at h
  · rename_i fs hu; simp at h; subst h; simp [isAgg, run_underlying hu]
  · rename_i n e hu; simp at h; subst h; simp [isAgg, run_underlying hu]
  · rename_i d h1 h2 hu
    simp at h; subst h
    simp only [isAgg, Sem.run_bind, run_underlying hu, Result.andThen_ok, Sem.run_pure]
  · simp at h
theorem run_zero {P : Program} {t : TypeId} {z : List CV} (h : zeroC P t = some z) (w : World) : ∃ v : Value, (zeroValue t).run P w = .ok v w ∧ ∀ β, Cells β z v.cells.toList := by
  unfold zeroC at h
  split at h
  · rename_i i hi
    split at h
    · rename_i v hv
      refine ⟨v, ?_, fun β => constCs_rel h⟩
      simp [zeroValue, typeInfo, hi, hv]
    · simp at h
  · simp at h

/-! ### One operation -/
def OpOk (P : Program) (o : Oper) (a : Act) (B0 : Nat) (β : Beta) (H : AHeap) (w : World) (v : AV) (H' : AHeap) : Prop :=
  ∃ β' x w', ((execOp a.eval o).run P w = .ok (.value x) w' ∨ ((execOp a.eval o).run P w = .ok .skip w' ∧ x = Go.undef)) ∧ v.rel β' x ∧ Go_ B0 β H w β' H' w'

theorem OpOk.value {P : Program} {o : Oper} {a : Act} {B0 : Nat} {β β' : Beta} {H : AHeap} {w w' : World} {v : AV} {H' : AHeap} {x : Value} (h : (execOp a.eval o).run P w = .ok (.value x) w') (hv : v.rel β' x) (hg : Go_ B0 β H w β' H' w') : OpOk P o a B0 β H w v H' :=
  ⟨β', x, w', .inl h, hv, hg⟩
theorem OpOk.same {P : Program} {o : Oper} {a : Act} {B0 : Nat} {β : Beta} {H : AHeap} {w : World} {v : AV} {x : Value} (hr : HR B0 β H w) (h : (execOp a.eval o).run P w = .ok (.value x) w) (hv : v.rel β x) : OpOk P o a B0 β H w v H :=
  ⟨β, x, w, .inl h, hv, .refl hr⟩

section
variable {P : Program} {call : CallA} {B0 : Nat} {β : Beta} {H H' : AHeap} {σ : Sl} {a : Act} {w : World} {v : AV} {dst : Option Tmp} {type : TypeId} {pos : String} {after : Array Edge} {g : Option (Nat × Bool)}

theorem ok_move (hs : SR β σ a) (hr : HR B0 β H w) {x : Operand} {y : Opd} (hc : cOpd x = some y) : OpOk P ⟨dst, .move x, type, pos, after, g⟩ a B0 β H w (y.ev σ) H :=
  .same hr (by simp [execOp]) (cOpd_rel hs hc)
theorem ok_assign (hs : SR β σ a) (hr : HR B0 β H w) {x : Operand} {y : Opd} (hc : cOpd x = some y) : OpOk P ⟨dst, .assign x, type, pos, after, g⟩ a B0 β H w (y.ev σ) H :=
  .same hr (by simp [execOp]) (cOpd_rel hs hc)
theorem ok_pick (hs : SR β σ a) (hr : HR B0 β H w) {c x y : Operand} {c' x' y' : Opd} (hc : cOpd c = some c') (hx : cOpd x = some x') (hy : cOpd y = some y') {t : Bool} (ht : c'.ev σ = .c (.bool t)) :
    OpOk P ⟨dst, .pick c x y, type, pos, after, g⟩ a B0 β H w (if t then x'.ev σ else y'.ev σ) H := by
  have h1 := cOpd_rel hs hc; rw [ht] at h1; have h1 := rel_bool h1
  refine .same hr (x := if t then a.eval x else a.eval y) (by simp [execOp, h1, asBool]) ?_
  cases t
  · exact cOpd_rel hs hy
  · exact cOpd_rel hs hx

theorem ok_new (hr : HR B0 β H w) {e : TypeId} {cs : List CV} {xs : List Value} (hc : Cells β cs xs) {o : Oper}
    (h : (execOp a.eval o).run P w = .ok (.value (.pointer (some ⟨w.heap.size, 0, none⟩))) (w.alloc (.cells xs.toArray e (0, 0)))) : OpOk P o a B0 β H w (.c (.ptr (some (H.length, 0)))) (H ++ [some ⟨e, cs, .own⟩]) :=
  .value h ⟨_, hr.newAddr _, rfl⟩ (hr.alloc e cs xs .own (.inl rfl) (by rw [hc.1, List.take_length]; exact hc) (fun _ => hc.1.symm))

theorem ok_alloc (hr : HR B0 β H w) {e : TypeId} {z : List CV} (hz : zeroC P e = some z) : OpOk P ⟨dst, .alloc e, type, pos, after, g⟩ a B0 β H w (.c (.ptr (some (H.length, 0)))) (H ++ [some ⟨e, z, .own⟩]) := by
  obtain ⟨x, hx, hc⟩ := run_zero (P := P) hz w
  exact ok_new hr (xs := x.cells.toList) (hc β) (by simp [execOp, Instr.alloc, newVar, newRow, hx])
theorem ok_box (hs : SR β σ a) (hr : HR B0 β H w) {e : TypeId} {x : Operand} {y : Opd} (hx : cOpd x = some y) {cs : List CV} (hc : (y.ev σ).cells? = some cs) : OpOk P ⟨dst, .box e x, type, pos, after, g⟩ a B0 β H w (.c (.ptr (some (H.length, 0)))) (H ++ [some ⟨e, cs, .own⟩]) := by
  obtain ⟨xs, h1, h2⟩ := AV.cells_rel hc (cOpd_rel hs hx)
  exact ok_new hr h2 (by simp [execOp, Instr.box, newVar, newRow, h1])

theorem ok_load1 (hs : SR β σ a) (hr : HR B0 β H w) {t : TypeId} {x : Operand} {y : Opd} (ht : isAggC P t = some false) (hx : cOpd x = some y) {p : Nat × Nat} (hp : y.ev σ = .c (.ptr (some p))) {c : CV} (hc : readCell H p = some c) :
    OpOk P ⟨dst, .load t x, type, pos, after, g⟩ a B0 β H w (.c c) H := by
  have h1 := cOpd_rel hs hx; rw [hp] at h1; obtain ⟨ad, ha, h1⟩ := rel_ptr h1
  obtain ⟨u, h2, h3⟩ := hr.readCell hc ha
  exact .same hr (by simp [execOp, Instr.loadAt, Instr.sureAddr, h1, loadVar, run_isAgg ht, h2]) h3
theorem ok_loadN (hs : SR β σ a) (hr : HR B0 β H w) {t : TypeId} {n : Nat} {x : Operand} {y : Opd} (ht : isAggC P t = some true) (hn : sizeC P t = some n) (hx : cOpd x = some y) {p : Nat × Nat} (hp : y.ev σ = .c (.ptr (some p))) {cs : List CV} (hc : readCells H p n = some cs) :
    OpOk P ⟨dst, .load t x, type, pos, after, g⟩ a B0 β H w (.agg cs) H := by
  have h1 := cOpd_rel hs hx; rw [hp] at h1; obtain ⟨ad, ha, h1⟩ := rel_ptr h1
  obtain ⟨xs, hl, h2, h3⟩ := hr.loadCells (P := P) hc ha
  exact .same hr (x := .agg xs.toArray) (by simp [execOp, Instr.loadAt, Instr.sureAddr, h1, loadVar, run_isAgg ht, run_size hn, h2]) ⟨xs, rfl, h3⟩
theorem ok_store (hs : SR β σ a) (hr : HR B0 β H w) {t : TypeId} {n : Nat} {x y : Operand} {x' y' : Opd} (hn : sizeC P t = some n) (hx : cOpd x = some x') (hy : cOpd y = some y') {p : Nat × Nat} (hp : x'.ev σ = .c (.ptr (some p))) {cs : List CV} (hc : (y'.ev σ).cells? = some cs) (hl : cs.length = n) (hw : writeCells H p cs = some H') :
    OpOk P ⟨dst, .store t x y, type, pos, after, g⟩ a B0 β H w (.c .undef) H' := by
  have h1 := cOpd_rel hs hx; rw [hp] at h1; obtain ⟨ad, ha, h1⟩ := rel_ptr h1
  obtain ⟨xs, h2, h3⟩ := AV.cells_rel hc (cOpd_rel hs hy)
  obtain ⟨w', h4, h5⟩ := hr.store (P := P) hw ha h3
  have hsz : xs.length = n := by rw [← h3.1]; exact hl
  refine ⟨β, Go.undef, w', .inr ⟨?_, rfl⟩, rfl, h5⟩
  simp [execOp, Instr.storeAt, Instr.sureAddr, h1, storeVar, run_size hn, h2, hsz, h4]
theorem ok_nilchk_ptr (hs : SR β σ a) (hr : HR B0 β H w) {x : Operand} {y : Opd} (hx : cOpd x = some y) {p : Nat × Nat} (hp : y.ev σ = .c (.ptr (some p))) : OpOk P ⟨dst, .nilCheck x, type, pos, after, g⟩ a B0 β H w (.c (.ptr (some p))) H := by
  have h1 := cOpd_rel hs hx; rw [hp] at h1; obtain ⟨ad, ha, h1⟩ := rel_ptr h1
  exact .same hr (x := .pointer (some ad)) (by simp [execOp, h1]) ⟨ad, ha, rfl⟩
theorem ok_nilchk_fn (hs : SR β σ a) (hr : HR B0 β H w) {x : Operand} {y : Opd} (hx : cOpd x = some y) {f : FuncId} {cs : List (Nat × Nat)} (hp : y.ev σ = .c (.fn f cs)) : OpOk P ⟨dst, .nilCheck x, type, pos, after, g⟩ a B0 β H w (.c (.fn f cs)) H := by
  have h1 := cOpd_rel hs hx; rw [hp] at h1
  obtain ⟨l, h2, h3⟩ := h1
  exact .same hr (x := .func (.func f) #[] l.toArray) (by simp [execOp, h2]) ⟨l, rfl, h3⟩
theorem ok_ext (hs : SR β σ a) (hr : HR B0 β H w) {x : Operand} {y : Opd} (hx : cOpd x = some y) {vs : List V0} (hp : y.ev σ = .tup vs) {i : Nat} {u : V0} (hu : vs[i]? = some u) : OpOk P ⟨dst, .extract x i, type, pos, after, g⟩ a B0 β H w u.toAV H := by
  have h1 := cOpd_rel hs hx; rw [hp] at h1
  obtain ⟨xs, h2, h3, h4⟩ := h1
  obtain ⟨z, h5, h6⟩ := h4 i u hu
  refine .same hr (x := z) (by simp [execOp, Instr.extract, h2, h5]) ?_
  cases u <;> exact h6

/-! ### Addresses -/
theorem ok_idxA (hs : SR β σ a) (hr : HR B0 β H w) {t e : TypeId} {n s : Nat} {x i : Operand} {x' i' : Opd} (ht : P.underlying t = some (.array n e)) (he : sizeC P e = some s) (hx : cOpd x = some x') (hi : cOpd i = some i') {p : Nat × Nat} (hp : x'.ev σ = .c (.ptr (some p))) {k : IntKind} {m : Int} (hm : i'.ev σ = .c (.int k m)) (hb : 0 ≤ m ∧ m < n) :
    OpOk P ⟨dst, .indexAddr t x i, type, pos, after, g⟩ a B0 β H w (.c (.ptr (some (p.1, p.2 + m.toNat * s)))) H := by
  have h1 := cOpd_rel hs hx; rw [hp] at h1; obtain ⟨ad, ha, h1⟩ := rel_ptr h1
  have h2 := cOpd_rel hs hi; rw [hm] at h2; have h2 := rel_int h2
  refine .same hr (x := .pointer (some (ad.add (m.toNat * s)))) ?_ ⟨_, ha.add _, rfl⟩
  simp [execOp, Instr.indexAt, h1, h2, asIntOf, run_underlying ht, Instr.sureAddr, hb, run_size he]
theorem ok_idxS (hs : SR β σ a) (hr : HR B0 β H w) {t e : TypeId} {s : Nat} {x i : Operand} {x' i' : Opd} (ht : P.underlying t = some (.slice e)) (he : sizeC P e = some s) (hx : cOpd x = some x') (hi : cOpd i = some i') {p : Nat × Nat} {l : Nat} {cap : Cap} (hp : x'.ev σ = .c (.slice (some p) l cap)) {k : IntKind} {m : Int} (hm : i'.ev σ = .c (.int k m)) (hb : 0 ≤ m ∧ m < l) :
    OpOk P ⟨dst, .indexAddr t x i, type, pos, after, g⟩ a B0 β H w (.c (.ptr (some (p.1, p.2 + m.toNat * s)))) H := by
  have h1 := cOpd_rel hs hx; rw [hp] at h1; obtain ⟨ad, c, ha, _, h1, _⟩ := h1
  have h2 := cOpd_rel hs hi; rw [hm] at h2; have h2 := rel_int h2
  have ha : AddrRel β p ad := ha (by cases cap <;> simp [needsAddr] <;> omega)
  refine .same hr (x := .pointer (some (ad.add (m.toNat * s)))) ?_ ⟨_, ha.add _, rfl⟩
  simp [execOp, Instr.indexAt, h1, h2, asIntOf, run_underlying ht, hb, run_size he]
theorem ok_fldA (hs : SR β σ a) (hr : HR B0 β H w) {t : TypeId} {fs : Array Field} {f n : Nat} {fd : Field} {x : Operand} {x' : Opd} (ht : P.underlying t = some (.struct fs)) (hf : fs[f]? = some fd) (hn : sizeC P fd.type = some (n + 1)) (hx : cOpd x = some x') {p : Nat × Nat} (hp : x'.ev σ = .c (.ptr (some p))) :
    OpOk P ⟨dst, .fieldAddr t x f, type, pos, after, g⟩ a B0 β H w (.c (.ptr (some (p.1, p.2 + fd.offset)))) H := by
  have h1 := cOpd_rel hs hx; rw [hp] at h1; obtain ⟨ad, ha, h1⟩ := rel_ptr h1
  refine .same hr (x := .pointer (some (ad.add fd.offset))) ?_ ⟨_, ha.add _, rfl⟩
  simp [execOp, Instr.fieldAt, run_underlying ht, hf, h1, Instr.sureAddr, fieldPlace, run_size hn]

/-! ### Parts of aggregates -/
theorem run_partN {t : TypeId} {n : Nat} (ht : isAggC P t = some true) (hn : sizeC P t = some n) (xs : List Value) (off : Nat) : (part t xs.toArray off).run P w = .ok (.agg ((xs.drop off).take n).toArray) w := by
  simp [part, run_isAgg ht, run_size hn]
theorem run_part1 {t : TypeId} (ht : isAggC P t = some false) {xs : List Value} {off : Nat} {u : Value} (hu : xs[off]? = some u) : (part t xs.toArray off).run P w = .ok u w := by
  simp [part, run_isAgg ht, hu]
theorem ok_fldN (hs : SR β σ a) (hr : HR B0 β H w) {t : TypeId} {fs : Array Field} {f n : Nat} {fd : Field} {x : Operand} {x' : Opd} (ht : P.underlying t = some (.struct fs)) (hf : fs[f]? = some fd) (hg : isAggC P fd.type = some true) (hn : sizeC P fd.type = some n) (hx : cOpd x = some x') {cs : List CV} (hp : x'.ev σ = .agg cs) :
    OpOk P ⟨dst, .field t x f, type, pos, after, g⟩ a B0 β H w (.agg ((cs.drop fd.offset).take n)) H := by
  have h1 := cOpd_rel hs hx; rw [hp] at h1; obtain ⟨xs, h1, hc⟩ := rel_agg h1
  refine .same hr (x := .agg ((xs.drop fd.offset).take n).toArray) ?_ ⟨_, rfl, (hc.drop _).take _⟩
  simp [execOp, Instr.field, run_underlying ht, hf, h1, asAgg, run_partN hg hn]
theorem ok_fld1 (hs : SR β σ a) (hr : HR B0 β H w) {t : TypeId} {fs : Array Field} {f : Nat} {fd : Field} {x : Operand} {x' : Opd} (ht : P.underlying t = some (.struct fs)) (hf : fs[f]? = some fd) (hg : isAggC P fd.type = some false) (hx : cOpd x = some x') {cs : List CV} (hp : x'.ev σ = .agg cs) {c : CV} (hc0 : cs[fd.offset]? = some c) :
    OpOk P ⟨dst, .field t x f, type, pos, after, g⟩ a B0 β H w (.c c) H := by
  have h1 := cOpd_rel hs hx; rw [hp] at h1; obtain ⟨xs, h1, hc⟩ := rel_agg h1
  obtain ⟨u, h2, h3⟩ := hc.2 _ c hc0
  exact .same hr (x := u) (by simp [execOp, Instr.field, run_underlying ht, hf, h1, asAgg, run_part1 hg h2]) h3
theorem ok_idxN (hs : SR β σ a) (hr : HR B0 β H w) {t e : TypeId} {n s : Nat} {x i : Operand} {x' i' : Opd} (ht : P.underlying t = some (.array n e)) (hg : isAggC P e = some true) (he : sizeC P e = some s) (hx : cOpd x = some x') (hi : cOpd i = some i') {cs : List CV} (hp : x'.ev σ = .agg cs) {k : IntKind} {m : Int} (hm : i'.ev σ = .c (.int k m)) (hb : 0 ≤ m ∧ m < n) :
    OpOk P ⟨dst, .index t x i, type, pos, after, g⟩ a B0 β H w (.agg ((cs.drop (m.toNat * s)).take s)) H := by
  have h1 := cOpd_rel hs hx; rw [hp] at h1; obtain ⟨xs, h1, hc⟩ := rel_agg h1
  have h2 := cOpd_rel hs hi; rw [hm] at h2; have h2 := rel_int h2
  refine .same hr (x := .agg ((xs.drop (m.toNat * s)).take s).toArray) ?_ ⟨_, rfl, (hc.drop _).take _⟩
  simp [execOp, Instr.index, h1, h2, asIntOf, run_underlying ht, hb, run_size he, run_partN hg he]
theorem ok_idx1 (hs : SR β σ a) (hr : HR B0 β H w) {t e : TypeId} {n : Nat} {x i : Operand} {x' i' : Opd} (ht : P.underlying t = some (.array n e)) (hg : isAggC P e = some false) (he : sizeC P e = some 1) (hx : cOpd x = some x') (hi : cOpd i = some i') {cs : List CV} (hp : x'.ev σ = .agg cs) {k : IntKind} {m : Int} (hm : i'.ev σ = .c (.int k m)) (hb : 0 ≤ m ∧ m < n) {c : CV} (hc0 : cs[m.toNat]? = some c) :
    OpOk P ⟨dst, .index t x i, type, pos, after, g⟩ a B0 β H w (.c c) H := by
  have h1 := cOpd_rel hs hx; rw [hp] at h1; obtain ⟨xs, h1, hc⟩ := rel_agg h1
  have h2 := cOpd_rel hs hi; rw [hm] at h2; have h2 := rel_int h2
  obtain ⟨u, h3, h4⟩ := hc.2 _ c hc0
  exact .same hr (x := u) (by simp [execOp, Instr.index, h1, h2, asIntOf, run_underlying ht, hb, run_size he, run_part1 hg h3]) h4
theorem ok_idxStr (hs : SR β σ a) (hr : HR B0 β H w) {t : TypeId} {x i : Operand} {x' i' : Opd} (ht : P.underlying t = some .string) (hx : cOpd x = some x') (hi : cOpd i = some i') {s : ByteArray} (hp : x'.ev σ = .c (.str s)) {k : IntKind} {m : Int} (hm : i'.ev σ = .c (.int k m)) (hb : 0 ≤ m) {c : UInt8} (hc : s[m.toNat]? = some c) :
    OpOk P ⟨dst, .index t x i, type, pos, after, g⟩ a B0 β H w (.c (.int .u8 c.toNat)) H := by
  have h1 := cOpd_rel hs hx; rw [hp] at h1; have h1 := rel_str h1
  have h2 := cOpd_rel hs hi; rw [hm] at h2; have h2 := rel_int h2
  exact .same hr (x := .int .u8 c.toNat) (by simp [execOp, Instr.index, h1, h2, asIntOf, run_underlying ht, hb, hc]) rfl
end

end Go.Proofs.YtmockobmiagbcaaDoor.VI

set_option linter.unusedVariables false
set_option linter.unusedSimpArgs false
set_option linter.unusedSectionVars false
namespace Go.Proofs.YtmockobmiagbcaaDoor.VI
open Go Go.RowKit

section
variable {P : Program} {call : CallA} {B0 : Nat} {β : Beta} {H H' : AHeap} {σ : Sl} {a : Act} {w : World} {v : AV} {dst : Option Tmp} {type : TypeId} {pos : String} {after : Array Edge} {g : Option (Nat × Bool)}

/-! ### Arithmetic -/
theorem run_intBin {op : BinOp} {k k' : IntKind} {a b : Int} {c : CV} (hk : (op = .shl ∨ op = .shr) ∨ k = k') (h : intBin op k a b = some c) (t : TypeId) : ∃ x, (binOp op t (.int k a) (.int k' b)).run P w = .ok x w ∧ c.rel β x := by
  cases op
  case shl =>
    simp only [intBin] at h
    split at h
    · simp at h
    · rename_i hb
      simp at h; subst h
      refine ⟨_, ?_, rfl⟩
      simp [binOp, Op.shift, hb, vshl]
  case shr =>
    simp only [intBin] at h
    split at h
    · simp at h
    · rename_i hb
      simp at h; subst h
      refine ⟨_, ?_, rfl⟩
      simp [binOp, Op.shift, hb, vshr]
  case quo =>
    have hk : k = k' := by simpa using hk
    subst hk
    simp only [intBin] at h
    split at h
    · simp at h
    · rename_i hb
      simp at h; subst h
      exact ⟨_, by simp [binOp, Op.intDiv, hb], rfl⟩
  case rem =>
    have hk : k = k' := by simpa using hk
    subst hk
    simp only [intBin] at h
    split at h
    · simp at h
    · rename_i hb
      simp at h; subst h
      exact ⟨_, by simp [binOp, Op.intDiv, hb], rfl⟩
  all_goals
    have hk : k = k' := by simpa using hk
    subst hk
    simp only [intBin, Option.some.injEq] at h
    subst h
    first
      | exact ⟨_, by simp only [binOp, ne_eq, not_true_eq_false, if_false, Op.intArith, Op.intBits, Op.intCmp]; rfl, rfl⟩

theorem run_strBin {op : BinOp} {a b : ByteArray} {c : CV} (h : strBin op a b = some c) (t : TypeId) : ∃ x, (binOp op t (.string a) (.string b)).run P w = .ok x w ∧ c.rel β x := by
  cases op
  case add =>
    simp only [strBin] at h
    split at h
    · rename_i hle
      simp at h; subst h
      refine ⟨_, ?_, rfl⟩
      have : ¬ ((a.size : Int) + b.size > IntKind.i64.max) := by
        have : IntKind.i64.max = 9223372036854775807 := by decide
        omega
      simp [binOp, Op.stringOp]
      omega
    · simp at h
  all_goals simp only [strBin] at h
  all_goals first
    | (cases h; done)
    | (simp only [Option.some.injEq] at h; subst h; exact ⟨_, by simp [binOp, Op.stringOp]; try rfl, rfl⟩)

/-- Equality of one cell. -/
theorem eqC_rel {q : EqK} {x y : CV} {r : Bool} (h : eqC q x y = some r) {u z : Value} (hx : x.rel β u) (hy : y.rel β z) :
    (∃ k a b, q = .int ∧ u = .int k a ∧ z = .int k b ∧ r = (a == b)) ∨ (∃ a b, q = .bool ∧ u = .bool a ∧ z = .bool b ∧ r = (a == b)) ∨ (∃ a b, q = .str ∧ u = .string a ∧ z = .string b ∧ r = (a == b)) := by
  unfold eqC at h
  split at h
  · split at h
    · rename_i hk; subst hk
      simp at h; exact .inl ⟨_, _, _, rfl, hx, hy, h.symm⟩
    · simp at h
  · simp at h; exact .inr (.inl ⟨_, _, rfl, hx, hy, h.symm⟩)
  · simp at h; exact .inr (.inr ⟨_, _, rfl, hx, hy, h.symm⟩)
  · simp at h

theorem eqCells_len {l : List EqK} : ∀ {xs ys : List CV} {r : Bool}, eqCells l xs ys = some r → xs.length = l.length ∧ ys.length = l.length := by
  induction l with
  | nil => intro xs ys r h; cases xs <;> cases ys <;> simp [eqCells] at h ⊢
  | cons q l ih =>
    intro xs ys r h
    cases xs with
    | nil => simp [eqCells] at h
    | cons x xs =>
      cases ys with
      | nil => simp [eqCells] at h
      | cons y ys =>
        simp only [eqCells] at h
        split at h
        · rename_i a b _ hb
          have := ih hb
          simp [this.1, this.2]
        · simp at h
theorem eqCells_append {l m : List EqK} : ∀ {xs ys : List CV} {r : Bool}, eqCells (l ++ m) xs ys = some r →
    ∃ r1 r2, eqCells l (xs.take l.length) (ys.take l.length) = some r1 ∧ eqCells m (xs.drop l.length) (ys.drop l.length) = some r2 ∧ r = (r1 && r2) := by
  induction l with
  | nil => intro xs ys r h; exact ⟨true, r, by simp [eqCells], by simpa using h, by simp⟩
  | cons q l ih =>
    intro xs ys r h
    cases xs with
    | nil => simp [eqCells] at h
    | cons x xs =>
      cases ys with
      | nil => simp [eqCells] at h
      | cons y ys =>
        simp only [List.cons_append, eqCells] at h
        split at h
        · rename_i a b ha hb
          obtain ⟨r1, r2, h1, h2, h3⟩ := ih hb
          simp at h
          exact ⟨a && r1, r2, by simp [eqCells, ha, h1], by simpa using h2, by rw [← h, h3, Bool.and_assoc]⟩
        · simp at h

/-- The model's equality at a depth: what is to be shown of a type. -/
def EqSays (P : Program) (d : Nat) (t : TypeId) (l : List EqK) : Prop :=
  ∀ (β : Beta) (w : World) (xs ys : List CV) (us zs : List Value) (r : Bool), eqCells l xs ys = some r → Cells β xs us → Cells β ys zs →
    (isAggC P t = some true → (Op.equalIn d t (.agg us.toArray) (.agg zs.toArray)).run P w = .ok r w) ∧
    (isAggC P t = some false → ∀ u z, us = [u] → zs = [z] → (Op.equalIn d t u z).run P w = .ok r w)

theorem cells_one_inv {x : CV} {us : List Value} (h : Cells β [x] us) : ∃ u, us = [u] ∧ x.rel β u := by
  obtain ⟨u, us', rfl, h1, h2⟩ := h.cons_inv
  have := h2.nil_inv; subst this
  exact ⟨u, rfl, h1⟩

/-- The equality of a part. -/
theorem part_eq {d : Nat} {t : TypeId} {l : List EqK} (h : EqSays P d t l) {s : Nat} (hs : sizeC P t = some s) {b : Bool} (hb : isAggC P t = some b) (h1 : b = false → s = 1) {xs ys : List CV} {us zs : List Value} (hx : Cells β xs us) (hy : Cells β ys zs) {off : Nat} {r : Bool}
    (he : eqCells l ((xs.drop off).take s) ((ys.drop off).take s) = some r) (hl : l.length = s) :
    ∃ u z, (part t us.toArray off).run P w = .ok u w ∧ (part t zs.toArray off).run P w = .ok z w ∧ (Op.equalIn d t u z).run P w = .ok r w := by
  have hx' := (hx.drop off).take s
  have hy' := (hy.drop off).take s
  have h2 := h β w _ _ _ _ r he hx' hy'
  cases b with
  | true => exact ⟨_, _, run_partN hb hs _ _, run_partN hb hs _ _, h2.1 hb⟩
  | false =>
    have hs1 := h1 rfl
    subst hs1
    have hlen := eqCells_len he
    rw [hl] at hlen
    obtain ⟨x0, hx0⟩ := List.length_eq_one_iff.1 hlen.1
    obtain ⟨y0, hy0⟩ := List.length_eq_one_iff.1 hlen.2
    rw [hx0] at hx'; rw [hy0] at hy'
    obtain ⟨u, hu, _⟩ := cells_one_inv hx'
    obtain ⟨z, hz, _⟩ := cells_one_inv hy'
    have gu : us[off]? = some u := by
      have : (List.take 1 (List.drop off us))[0]? = some u := by rw [hu]; rfl
      simpa using this
    have gz : zs[off]? = some z := by
      have : (List.take 1 (List.drop off zs))[0]? = some z := by rw [hz]; rfl
      simpa using this
    exact ⟨u, z, run_part1 hb gu, run_part1 hb gz, h2.2 hb u z hu hz⟩

theorem eqK_one {d : Nat} {t : TypeId} {l : List EqK} (h : eqK P d t = some l) (hb : isAggC P t = some false) : l.length = 1 := by
  cases d with
  | zero => simp [eqK] at h
  | succ d =>
    unfold eqK at h
    unfold isAggC at hb
    split at h
    · simp at h; subst h; rfl
    · simp at h; subst h; rfl
    · simp at h; subst h; rfl
    · rename_i n e hu; simp [hu] at hb
    · rename_i fs hu; simp [hu] at hb
    · simp at h

theorem eqFs_says {d : Nat} {rec : TypeId → Option (List EqK)} (ih : ∀ t l, rec t = some l → EqSays P d t l ∧ (isAggC P t = some false → l.length = 1)) {xs ys : List CV} {us zs : List Value} (hx : Cells β xs us) (hy : Cells β ys zs) :
    ∀ (fs : List Field) (off : Nat) (l : List EqK) (r : Bool), eqFs P rec off fs = some l → eqCells l (xs.drop off) (ys.drop off) = some r → (Op.eqFields d us.toArray zs.toArray fs).run P w = .ok r w
  | [], off, l, r, h, he => by
    simp [eqFs] at h; subst h
    have := eqCells_len he
    have h1 : xs.drop off = [] := List.length_eq_zero_iff.1 this.1
    have h2 : ys.drop off = [] := List.length_eq_zero_iff.1 this.2
    rw [h1, h2] at he
    simp [eqCells] at he; subst he
    simp [Op.eqFields]
  | f :: fs, off, l, r, h, he => by
    simp only [eqFs] at h
    split at h
    · simp at h
    rename_i hn
    simp only [not_or, Decidable.not_not] at hn
    split at h
    case h_2 => simp at h
    rename_i l1 b s hl1 hb hs
    split at h
    case isFalse => simp at h
    rename_i hls
    simp only [Option.map_eq_some_iff] at h
    obtain ⟨l2, hl2, rfl⟩ := h
    obtain ⟨r1, r2, h1, h2, rfl⟩ := eqCells_append he
    rw [hls] at h1 h2
    obtain ⟨ih1, ih2⟩ := ih _ _ hl1
    obtain ⟨u, z, p1, p2, p3⟩ := part_eq (w := w) ih1 hs hb (fun e => by subst e; rw [← hls]; exact ih2 hb) hx hy h1 hls
    rw [← hn.2] at p1 p2
    have hrest := eqFs_says ih hx hy fs (off + s) l2 r2 hl2 (by simpa [List.drop_drop] using h2)
    simp only [Op.eqFields, ne_eq, hn.1, not_false_eq_true, if_true, Sem.run_bind, p1, p2, p3, Result.andThen_ok]
    cases r1
    · simp
    · simpa using hrest

theorem eqItems_says {d : Nat} {e : TypeId} {l : List EqK} (ih : EqSays P d e l) (ih1 : isAggC P e = some false → l.length = 1) {s : Nat} (hs : sizeC P e = some s) {b : Bool} (hb : isAggC P e = some b) (hl : l.length = s) {xs ys : List CV} {us zs : List Value} (hx : Cells β xs us) (hy : Cells β ys zs) :
    ∀ (n i : Nat) (r : Bool), eqCells (List.replicate n l).flatten (xs.drop (i * s)) (ys.drop (i * s)) = some r → (Op.eqItems d e s us.toArray zs.toArray (List.range' i n)).run P w = .ok r w
  | 0, i, r, he => by
    have := eqCells_len he
    have h1 : xs.drop (i * s) = [] := List.length_eq_zero_iff.1 this.1
    have h2 : ys.drop (i * s) = [] := List.length_eq_zero_iff.1 this.2
    rw [h1, h2] at he
    simp [eqCells] at he; subst he
    simp [Op.eqItems]
  | n + 1, i, r, he => by
    rw [List.replicate_succ, List.flatten_cons] at he
    obtain ⟨r1, r2, h1, h2, rfl⟩ := eqCells_append he
    rw [hl] at h1 h2
    obtain ⟨u, z, p1, p2, p3⟩ := part_eq (w := w) ih hs hb (fun e => by subst e; rw [← hl]; exact ih1 hb) hx hy h1 hl
    have hrest := eqItems_says ih ih1 hs hb hl hx hy n (i + 1) r2 (by
      have e1 : (i + 1) * s = i * s + s := by rw [Nat.add_mul, Nat.one_mul]
      rw [e1]; simpa [List.drop_drop] using h2)
    rw [List.range'_succ]
    simp only [Op.eqItems, Sem.run_bind, p1, p2, p3, Result.andThen_ok]
    cases r1
    · simp
    · simpa using hrest

theorem eqK_says : ∀ (m : Nat) (d : Nat) (t : TypeId) (l : List EqK), eqK P m t = some l → EqSays P (d + m) t l
  | 0, d, t, l, h => by simp [eqK] at h
  | m + 1, d, t, l, h => by
    intro β w xs ys us zs r he hx hy
    have rec_ : ∀ t l, eqK P m t = some l → EqSays P (d + m) t l ∧ (isAggC P t = some false → l.length = 1) := fun t l h => ⟨eqK_says m d t l h, fun hb => eqK_one h hb⟩
    unfold eqK at h
    split at h
    · rename_i hu
      simp at h; subst h
      refine ⟨fun hb => by simp [isAggC, hu] at hb, fun _ u z eu ez => ?_⟩
      subst eu; subst ez
      match xs, ys, he, hx, hy with
      | [x], [y], he, hx, hy =>
        obtain ⟨u', e1, hxu⟩ := cells_one_inv hx
        obtain ⟨z', e2, hyz⟩ := cells_one_inv hy
        simp at e1 e2; subst e1; subst e2
        simp only [eqCells] at he
        split at he
        · rename_i a b ha hb
          simp at hb he; subst hb; simp at he; subst he
          rcases eqC_rel ha hxu hyz with ⟨k, a', b', hq, _⟩ | ⟨a', b', _, rfl, rfl, hr⟩ | ⟨a', b', hq, _⟩
          · cases hq
          · rw [hr]; exact run_equalIn_bool' w (d + m) t a' b' hu
          · cases hq
        · simp at he
      | [], _, he, _, _ => simp [eqCells] at he
      | _ :: _ :: _, [], he, _, _ => simp [eqCells] at he
      | _ :: _ :: _, _ :: _, he, _, _ => simp [eqCells] at he
      | [_], [], he, _, _ => simp [eqCells] at he
      | [_], _ :: _ :: _, he, _, _ => simp [eqCells] at he
    · rename_i k0 hu
      simp at h; subst h
      refine ⟨fun hb => by simp [isAggC, hu] at hb, fun _ u z eu ez => ?_⟩
      subst eu; subst ez
      match xs, ys, he, hx, hy with
      | [x], [y], he, hx, hy =>
        obtain ⟨u', e1, hxu⟩ := cells_one_inv hx
        obtain ⟨z', e2, hyz⟩ := cells_one_inv hy
        simp at e1 e2; subst e1; subst e2
        simp only [eqCells] at he
        split at he
        · rename_i a b ha hb
          simp at hb he; subst hb; simp at he; subst he
          rcases eqC_rel ha hxu hyz with ⟨k, a', b', hq, rfl, rfl, hr⟩ | ⟨a', b', hq, _⟩ | ⟨a', b', hq, _⟩
          · rw [hr]; exact run_equalIn_int w (d + m) t k k0 a' b' hu
          · cases hq
          · cases hq
        · simp at he
      | [], _, he, _, _ => simp [eqCells] at he
      | _ :: _ :: _, [], he, _, _ => simp [eqCells] at he
      | _ :: _ :: _, _ :: _, he, _, _ => simp [eqCells] at he
      | [_], [], he, _, _ => simp [eqCells] at he
      | [_], _ :: _ :: _, he, _, _ => simp [eqCells] at he
    · rename_i hu
      simp at h; subst h
      refine ⟨fun hb => by simp [isAggC, hu] at hb, fun _ u z eu ez => ?_⟩
      subst eu; subst ez
      match xs, ys, he, hx, hy with
      | [x], [y], he, hx, hy =>
        obtain ⟨u', e1, hxu⟩ := cells_one_inv hx
        obtain ⟨z', e2, hyz⟩ := cells_one_inv hy
        simp at e1 e2; subst e1; subst e2
        simp only [eqCells] at he
        split at he
        · rename_i a b ha hb
          simp at hb he; subst hb; simp at he; subst he
          rcases eqC_rel ha hxu hyz with ⟨k, a', b', hq, _⟩ | ⟨a', b', hq, _⟩ | ⟨a', b', _, rfl, rfl, hr⟩
          · cases hq
          · cases hq
          · rw [hr, beq_toListBytes]; exact run_equalIn_string w (d + m) t a' b' hu
        · simp at he
      | [], _, he, _, _ => simp [eqCells] at he
      | _ :: _ :: _, [], he, _, _ => simp [eqCells] at he
      | _ :: _ :: _, _ :: _, he, _, _ => simp [eqCells] at he
      | [_], [], he, _, _ => simp [eqCells] at he
      | [_], _ :: _ :: _, he, _, _ => simp [eqCells] at he
    · rename_i n e hu
      split at h
      case h_2 => simp at h
      rename_i l1 s b hl1 hs hb
      split at h
      case isFalse => simp at h
      rename_i hls
      simp at h; subst h
      refine ⟨fun _ => ?_, fun hb => by simp [isAggC, hu] at hb⟩
      obtain ⟨ih1, ih2⟩ := rec_ e l1 hl1
      have hi : ∃ i, P.info? e = some i ∧ P.cellsOf e = s := by
        unfold sizeC at hs
        cases hi : P.info? e with
        | none => simp [hi] at hs
        | some i => exact ⟨i, rfl, by simp [hi] at hs; simp [Program.cellsOf, hi, hs]⟩
      obtain ⟨i, hi, hcs⟩ := hi
      rw [show d + (m + 1) = (d + m) + 1 from rfl, run_equalIn_array w (d + m) us.toArray zs.toArray hu hi, hcs]
      have := eqItems_says (w := w) ih1 ih2 hs hb hls hx hy n 0 r (by simpa using he)
      rw [List.range_eq_range']
      exact this
    · rename_i fs hu
      split at h
      · simp at h
      rename_i hst
      refine ⟨fun _ => ?_, fun hb => by simp [isAggC, hu] at hb⟩
      have hfs : P.fieldsOf t = fs := by simp [Program.fieldsOf, hu]
      rw [show d + (m + 1) = (d + m) + 1 from rfl, run_equalIn_struct w (d + m) t us.toArray zs.toArray (by rw [hfs]; exact hu) (by simpa using hst), hfs]
      exact eqFs_says rec_ hx hy fs.toList 0 l r h (by simpa using he)
    · simp at h

theorem run_eqRes {op : BinOp} {r : Bool} {c : CV} (h : eqRes op r = some c) : (op = .eql ∧ c = .bool r) ∨ (op = .neq ∧ c = .bool !r) := by
  cases op <;> simp [eqRes] at h
  · exact .inl ⟨rfl, h.symm⟩
  · exact .inr ⟨rfl, h.symm⟩

/-- The guard of an equality between cells that are no interface values: nothing. -/
theorem run_eqGuard_plain {op : BinOp} {t : TypeId} {x y : Operand} {u z : Value} (h1 : u ≠ .nilIface) (h2 : ∀ l, u ≠ .agg l) : (eqGuard op t x y u z).run P w = .ok () w := by
  cases op <;> (try simp [eqGuard]; done)
  all_goals
    cases u
    case nilIface => exact absurd rfl h1
    case agg l => exact absurd rfl (h2 l)
    all_goals simp [eqGuard]

theorem CV.no_iface {c : CV} {x : Value} (h : c.rel β x) : x ≠ .nilIface ∧ ∀ l, x ≠ .agg l := by
  cases c with
  | ptr a => cases a with
    | none => simp [CV.rel] at h; subst h; simp
    | some p => obtain ⟨_, _, h⟩ := h; subst h; simp
  | slice a l cap => cases a with
    | none => simp [CV.rel] at h; obtain ⟨_, h⟩ := h; subst h; simp
    | some p => obtain ⟨_, _, _, _, h, _⟩ := h; subst h; simp
  | fn f caps => obtain ⟨_, h, _⟩ := h; subst h; simp
  | undef => simp [CV.rel] at h; subst h; simp [Go.undef]
  | _ => simp [CV.rel] at h; subst h; simp

theorem run_binOp_eq {op : BinOp} {t : TypeId} {u z : Value} {r : Bool} {c : CV} (hr : eqRes op r = some c) (hu : (∀ k n, u ≠ .int k n) ∧ (∀ s, u ≠ .string s)) (hn : (∀ k n, u ≠ .float k n) ∧ (∀ k n m, u ≠ .complex k n m)) (he : (Op.equal t u z).run P w = .ok r w) :
    (binOp op t u z).run P w = .ok (.bool (match c with | .bool b => b | _ => false)) w ∧ c.rel β (.bool (match c with | .bool b => b | _ => false)) := by
  rcases run_eqRes hr with ⟨rfl, rfl⟩ | ⟨rfl, rfl⟩
  · refine ⟨?_, rfl⟩
    cases u with
    | int k n => exact absurd rfl (hu.1 k n)
    | string s => exact absurd rfl (hu.2 s)
    | float k n => exact absurd rfl (hn.1 k n)
    | complex k n m => exact absurd rfl (hn.2 k n m)
    | _ => simp [binOp, he]
  · refine ⟨?_, rfl⟩
    cases u with
    | int k n => exact absurd rfl (hu.1 k n)
    | string s => exact absurd rfl (hu.2 s)
    | float k n => exact absurd rfl (hn.1 k n)
    | complex k n m => exact absurd rfl (hn.2 k n m)
    | _ => simp [binOp, he]

theorem cBinK_bool {t : TypeId} (h : cBinK P t = .bool) : P.underlying t = some .bool := by
  unfold cBinK at h
  repeat' split at h
  all_goals first | assumption | (cases h; done)
theorem cBinK_slice {t : TypeId} (h : cBinK P t = .slice) : ∃ e, P.underlying t = some (.slice e) := by
  unfold cBinK at h
  repeat' split at h
  all_goals first | exact ⟨_, by assumption⟩ | (cases h; done)
theorem cBinK_ptr {t : TypeId} (h : cBinK P t = .ptr) : ∃ e, P.underlying t = some (.pointer e) := by
  unfold cBinK at h
  repeat' split at h
  all_goals first | exact ⟨_, by assumption⟩ | (cases h; done)
theorem cBinK_agg {t : TypeId} {l : List EqK} (h : cBinK P t = .agg l) : P.eqGuardType P.depth t = false ∧ eqK P 9 t = some l ∧ isAggC P t = some true := by
  unfold cBinK at h
  split at h
  case h_6 n e hu =>
    split at h
    · cases h
    · rename_i hg
      split at h
      · rename_i l' hl'; cases h; exact ⟨by simpa using hg, hl', by simp [isAggC, hu]⟩
      · cases h
  case h_7 fs hu =>
    split at h
    · cases h
    · rename_i hg
      split at h
      · rename_i l' hl'; cases h; exact ⟨by simpa using hg, hl', by simp [isAggC, hu]⟩
      · cases h
  all_goals cases h
theorem equal_slice_l {t e : TypeId} (hu : P.underlying t = some (.slice e)) (b : Option Addr) (l c : Nat) : (Op.equal t (.slice none 0 0) (.slice b l c)).run P w = .ok b.isNone w := by
  have : ∀ d, (Op.equalIn (d + 1) t (.slice none 0 0) (.slice b l c)).run P w = .ok b.isNone w := fun d => by simp [Op.equalIn, run_underlying hu]
  exact this 9999
theorem equal_slice_r {t e : TypeId} (hu : P.underlying t = some (.slice e)) (b : Addr) (l c : Nat) : (Op.equal t (.slice (some b) l c) (.slice none 0 0)).run P w = .ok false w := by
  have : ∀ d, (Op.equalIn (d + 1) t (.slice (some b) l c) (.slice none 0 0)).run P w = .ok false w := fun d => by simp [Op.equalIn, run_underlying hu]
  exact this 9999
theorem equal_ptr_l {t e : TypeId} (hu : P.underlying t = some (.pointer e)) (b : Option Addr) : (Op.equal t (.pointer none) (.pointer b)).run P w = .ok b.isNone w := by
  have : ∀ d, (Op.equalIn (d + 1) t (.pointer none) (.pointer b)).run P w = .ok b.isNone w := fun d => by simp [Op.equalIn, run_underlying hu]
  exact this 9999
theorem equal_ptr_r {t e : TypeId} (hu : P.underlying t = some (.pointer e)) (b : Addr) : (Op.equal t (.pointer (some b)) (.pointer none)).run P w = .ok false w := by
  have : ∀ d, (Op.equalIn (d + 1) t (.pointer (some b)) (.pointer none)).run P w = .ok false w := fun d => by simp [Op.equalIn, run_underlying hu]
  exact this 9999

theorem ok_bin (hs : SR β σ a) (hr : HR B0 β H w) {op : BinOp} {t yt : TypeId} {x y : Operand} {x' y' : Opd} (hx : cOpd x = some x') (hy : cOpd y = some y') (h : binA op (cBinK P t) (x'.ev σ) (y'.ev σ) = some v) :
    OpOk P ⟨dst, .binOp op t x y yt, type, pos, after, g⟩ a B0 β H w v H := by
  have rx := cOpd_rel hs hx
  have ry := cOpd_rel hs hy
  unfold binA at h
  split at h
  · rename_i c d hc hd
    rw [hc] at rx; rw [hd] at ry
    simp only [Option.map_eq_some_iff] at h
    obtain ⟨r, h, rfl⟩ := h
    obtain ⟨n1, n2⟩ := CV.no_iface rx
    have hg : (eqGuard op t x y (a.eval x) (a.eval y)).run P w = .ok () w := run_eqGuard_plain n1 n2
    suffices hb : ∃ z, (binOp op t (a.eval x) (a.eval y)).run P w = .ok z w ∧ r.rel β z by
      obtain ⟨z, hz, hz'⟩ := hb
      exact .same hr (x := z) (by simp [execOp, hg, hz]) hz'
    unfold binC at h
    split at h
    · split at h
      · rename_i k1 n1' k2 n2' hk
        have e1 := rel_int rx; have e2 := rel_int ry
        rw [e1, e2]; exact run_intBin hk h t
      · simp at h
    · have e1 := rel_str rx; have e2 := rel_str ry
      rw [e1, e2]; exact run_strBin h t
    · have e1 := rel_bool rx; have e2 := rel_bool ry
      split at h
      · rename_i hq
        have hu : P.underlying t = some .bool := cBinK_bool hq
        rw [e1, e2]
        have := run_binOp_eq (P := P) (w := w) (β := β) (t := t) h (u := .bool _) (z := .bool _) (by simp) (by simp) (run_equalIn_bool' w 9999 t _ _ hu)
        exact ⟨_, this.1, this.2⟩
      · simp at h
    · split at h
      · rename_i l1 c1 b l2 c2 _ hq
        have hu : ∃ e, P.underlying t = some (.slice e) := by
          exact cBinK_slice hq
        obtain ⟨e, hu⟩ := hu
        obtain ⟨_, e1⟩ := rx
        rw [e1]
        have he : (Op.equal t (.slice none 0 0) (a.eval y)).run P w = .ok b.isNone w := by
          cases b with
          | none => obtain ⟨_, e2⟩ := ry; rw [e2]; exact equal_slice_l hu _ _ _
          | some p => obtain ⟨ad, cc, _, _, e2, _⟩ := ry; rw [e2]; exact equal_slice_l hu _ _ _
        have := run_binOp_eq (P := P) (w := w) (β := β) (t := t) h (u := .slice none 0 0) (z := a.eval y) (by simp) (by simp) he
        exact ⟨_, this.1, this.2⟩
      · simp at h
    · split at h
      · rename_i p l1 c1 l2 c2 _ hq
        have hu : ∃ e, P.underlying t = some (.slice e) := by
          exact cBinK_slice hq
        obtain ⟨e, hu⟩ := hu
        obtain ⟨ad, cc, _, _, e1, _⟩ := rx
        obtain ⟨_, e2⟩ := ry
        rw [e1, e2]
        have := run_binOp_eq (P := P) (w := w) (β := β) (t := t) h (u := .slice (some ad) l1 cc) (z := .slice none 0 0) (by simp) (by simp) (equal_slice_r (w := w) hu ad l1 cc)
        exact ⟨_, this.1, this.2⟩
      · simp at h
    · split at h
      · rename_i b _ hq
        have hu : ∃ e, P.underlying t = some (.pointer e) := by
          exact cBinK_ptr hq
        obtain ⟨e, hu⟩ := hu
        have e1 : a.eval x = .pointer none := rx
        rw [e1]
        have he : (Op.equal t (.pointer none) (a.eval y)).run P w = .ok b.isNone w := by
          cases b with
          | none => have e2 : a.eval y = .pointer none := ry; rw [e2]; exact equal_ptr_l hu _
          | some p => obtain ⟨ad, _, e2⟩ := ry; rw [e2]; exact equal_ptr_l hu _
        have hbo : ∃ z, (binOp op t (.pointer none) (a.eval y)).run P w = .ok z w ∧ r.rel β z := by
          rcases run_eqRes h with ⟨rfl, rfl⟩ | ⟨rfl, rfl⟩
          · exact ⟨.bool b.isNone, by simp [binOp, he], rfl⟩
          · exact ⟨.bool !b.isNone, by simp [binOp, he], rfl⟩
        exact hbo
      · simp at h
    · split at h
      · rename_i p _ hq
        have hu : ∃ e, P.underlying t = some (.pointer e) := by
          exact cBinK_ptr hq
        obtain ⟨e, hu⟩ := hu
        obtain ⟨ad, _, e1⟩ := rx
        have e2 : a.eval y = .pointer none := ry
        rw [e1, e2]
        have he : (Op.equal t (.pointer (some ad)) (.pointer none)).run P w = .ok false w   := equal_ptr_r hu _
        rcases run_eqRes h with ⟨rfl, rfl⟩ | ⟨rfl, rfl⟩
        · exact ⟨.bool false, by simp [binOp, he], rfl⟩
        · exact ⟨.bool !false, by simp [binOp, he], rfl⟩
      · simp at h
    · simp at h
  · rename_i xs ys hc hd
    rw [hc] at rx; rw [hd] at ry
    obtain ⟨us, e1, hu⟩ := rel_agg rx
    obtain ⟨zs, e2, hz⟩ := rel_agg ry
    split at h
    case h_2 => simp at h
    rename_i l hq
    split at h
    case h_2 => simp at h
    rename_i r hr'
    simp only [Option.map_eq_some_iff] at h
    obtain ⟨c, h, rfl⟩ := h
    have hk := cBinK_agg hq
    obtain ⟨hg, hk, hagg⟩ := hk
    have he : (Op.equal t (.agg us.toArray) (.agg zs.toArray)).run P w = .ok r w := ((eqK_says 9 9991 t l hk) β w xs ys us zs r hr' hu hz).1 hagg
    have hgd : (eqGuard op t x y (.agg us.toArray) (.agg zs.toArray)).run P w = .ok () w := by
      cases op <;> simp [eqGuard, hg]
    have := run_binOp_eq (P := P) (w := w) (β := β) (t := t) h (u := .agg us.toArray) (z := .agg zs.toArray) (by simp) (by simp) he
    exact .same hr (by simp [execOp, e1, e2, hgd, this.1]) this.2
  · simp at h

theorem ok_un (hs : SR β σ a) (hr : HR B0 β H w) {op : UnOp} {t : TypeId} {x : Operand} {x' : Opd} (hx : cOpd x = some x') (h : unA op (x'.ev σ) = some v) :
    OpOk P ⟨dst, .unOp op t x, type, pos, after, g⟩ a B0 β H w v H := by
  have rx := cOpd_rel hs hx
  unfold unA at h
  split at h
  · rename_i k n hc
    rw [hc] at rx; have e := rel_int rx
    simp at h; subst h
    exact .same hr (by simp [execOp, e, Op.unary, Op.intArith]) rfl
  · rename_i k n hc
    rw [hc] at rx; have e := rel_int rx
    simp at h; subst h
    exact .same hr (x := .int k (vxor k (if k.signed then -1 else k.max) n)) (by simp only [execOp, e, Op.unary, Op.intBits]; rfl) rfl
  · rename_i b hc
    rw [hc] at rx; have e := rel_bool rx
    simp at h; subst h
    exact .same hr (by simp [execOp, e, Op.unary]) rfl
  · simp at h

theorem ok_conv (hs : SR β σ a) (hr : HR B0 β H w) {src d : TypeId} {k0 k : IntKind} {x : Operand} {x' : Opd} (h1 : P.underlying src = some (.int k0)) (h2 : P.underlying d = some (.int k)) (hx : cOpd x = some x') {k1 : IntKind} {n : Int} (h : x'.ev σ = .c (.int k1 n)) :
    OpOk P ⟨dst, .convert src d x, type, pos, after, g⟩ a B0 β H w (.c (.int k (k.wrap n))) H := by
  have rx := cOpd_rel hs hx
  rw [h] at rx; have e := rel_int rx
  exact .same hr (x := .int k (k.wrap n)) (by simp [execOp, e, convert, run_underlying h1, run_underlying h2, Conv.intToInt]) rfl

end
end Go.Proofs.YtmockobmiagbcaaDoor.VI

set_option linter.unusedVariables false
set_option linter.unusedSimpArgs false
set_option linter.unusedSectionVars false
namespace Go.Proofs.YtmockobmiagbcaaDoor.VI
open Go Go.RowKit

section
variable {P : Program} {call : CallA} {B0 : Nat} {β : Beta} {H H' : AHeap} {σ : Sl} {a : Act} {w : World} {v : AV} {dst : Option Tmp} {type : TypeId} {pos : String} {after : Array Edge} {g : Option (Nat × Bool)}

/-! ### Filling -/
theorem foldl_set (off : Nat) : ∀ (xs : List Value) (i : Nat) (cells : List Value), off + i + xs.length ≤ cells.length →
    ((xs.zipIdx i).foldl (fun cs (p : Value × Nat) => cs.setIfInBounds (off + p.2) p.1) cells.toArray) = (setL cells (off + i) xs).toArray
  | [], i, cells, _ => by simp [setL]
  | x :: xs, i, cells, h => by
    simp only [List.length_cons] at h
    simp only [List.zipIdx_cons, List.foldl_cons, List.setIfInBounds_toArray]
    rw [foldl_set off xs (i + 1) (cells.set (off + i) x) (by simp; omega)]
    rw [← Nat.add_assoc, setL_cons (by omega)]

/-- The parts of a literal: places and cells on both sides. -/
def PartsRel (β : Beta) (place : Nat → Option (Nat × Nat)) (l : List (Nat × Nat × List CV)) (m : List (Nat × Value)) : Prop :=
  l.length = m.length ∧ ∀ (j : Nat) (o n : Nat) (cs : List CV), l[j]? = some (o, n, cs) → ∃ i x, m[j]? = some (i, x) ∧ place i = some (o, n) ∧ ∃ xs : List Value, x.cells = xs.toArray ∧ Cells β cs xs

theorem parts_rel (hs : SR β σ a) {place : Nat → Option (Nat × Nat)} : ∀ {ps : List (Nat × Operand)} {qs : List (Nat × Nat × Opd)} {l : List (Nat × Nat × List CV)}, partsC place ps = some qs → partsA σ qs = some l → PartsRel β place l (ps.map fun p => (p.1, a.eval p.2))
  | [], qs, l, h1, h2 => by
    simp [partsC] at h1; subst h1
    simp [partsA] at h2; subst h2
    exact ⟨rfl, fun j o n cs h => by simp at h⟩
  | (i, x) :: ps, qs, l, h1, h2 => by
    simp only [partsC] at h1
    split at h1
    case h_2 => simp at h1
    rename_i o n y l1 hp hy hl
    simp at h1; subst h1
    simp only [partsA] at h2
    split at h2
    case h_2 => simp at h2
    rename_i cs l2 hcs hl2
    simp at h2; subst h2
    have ih := parts_rel hs hl hl2
    refine ⟨by simp [ih.1], fun j o' n' cs' hj => ?_⟩
    cases j with
    | zero =>
      simp at hj; obtain ⟨rfl, rfl, rfl⟩ := hj
      obtain ⟨xs, h3, h4⟩ := AV.cells_rel hcs (cOpd_rel hs hy)
      exact ⟨i, a.eval x, rfl, hp, xs, h3, h4⟩
    | succ j => exact ih.2 j o' n' cs' (by simpa using hj)

theorem fill_rel {place : Nat → Option (Nat × Nat)} : ∀ {l : List (Nat × Nat × List CV)} {m : List (Nat × Value)} {z cs : List CV} {zs : List Value}, PartsRel β place l m → Cells β z zs → fillC z l = some cs →
    ∃ xs : List Value, Instr.fill place zs.toArray m = some xs.toArray ∧ Cells β cs xs
  | [], m, z, cs, zs, hp, hz, h => by
    have := hp.1
    simp at this
    have hm : m = [] := List.length_eq_zero_iff.1 this.symm
    subst hm
    simp [fillC] at h; subst h
    exact ⟨zs, rfl, hz⟩
  | (o, n, cs0) :: l, m, z, cs, zs, hp, hz, h => by
    cases m with
    | nil => have := hp.1; simp at this
    | cons p m =>
      obtain ⟨i, x, h1, h2, xs, h3, h4⟩ := hp.2 0 o n cs0 rfl
      simp at h1; subst h1
      simp only [fillC] at h
      split at h
      case isFalse => simp at h
      rename_i hc
      have hlen : xs.length = n := by rw [← h4.1]; exact hc.1
      obtain ⟨ys, h5, h6⟩ := fill_rel (m := m) ⟨by have := hp.1; simpa using this, fun j o' n' cs' hj => hp.2 (j + 1) o' n' cs' (by simpa using hj)⟩ (hz.set (off := o) h4) h
      refine ⟨ys, ?_, h6⟩
      have hzl : o + xs.length ≤ zs.length := by rw [← hz.1, hlen]; exact hc.2
      simp only [Instr.fill, h2, h3]
      rw [if_neg (by simp [hlen]; rw [← hz.1]; exact hc.2)]
      have := foldl_set o xs 0 zs (by simpa using hzl)
      simp only [Nat.add_zero] at this
      rw [← h5, ← this]
      congr 1
      rw [← Array.foldl_toList]
      simp

theorem fieldPlaces_run : ∀ {fs : List Field} {pl : List (Nat × Nat)}, fieldPlaces P fs = some pl → (fs.mapM (m := Sem) fun f => do pure (f.offset, ← sizeOf f.type)).run P w = .ok pl w
  | [], pl, h => by simp [fieldPlaces] at h; subst h; rfl
  | f :: fs, pl, h => by
    simp only [fieldPlaces] at h
    split at h
    case h_2 => simp at h
    rename_i n l hn hl
    simp at h; subst h
    have ih := fieldPlaces_run hl
    simp only [List.mapM_cons, Sem.run_bind, run_size hn, Result.andThen_ok, Sem.run_pure, ih]

theorem run_mapM_array {α γ : Type} (f : α → Sem γ) (xs : Array α) (ys : List γ) (h : (xs.toList.mapM f).run P w = .ok ys w) : (xs.mapM f).run P w = .ok ys.toArray w := by
  rw [Array.mapM_eq_mapM_toList, Sem.run_map, h]
  rfl

theorem ok_build (hs : SR β σ a) (hr : HR B0 β H w) {t : TypeId} {z : List CV} {parts : Array (Nat × Operand)} {place : Nat → Option (Nat × Nat)} {qs : List (Nat × Nat × Opd)} (hz : zeroC P t = some z) (hq : partsC place parts.toList = some qs)
    (hpl : (∃ fs pl, P.underlying t = some (.struct fs) ∧ fieldPlaces P fs.toList = some pl ∧ place = fun i => pl[i]?) ∨ (∃ n e s, P.underlying t = some (.array n e) ∧ sizeC P e = some s ∧ place = fun i => some (i * s, s)))
    {l : List (Nat × Nat × List CV)} (hl : partsA σ qs = some l) {cs : List CV} (hc : fillC z l = some cs) :
    OpOk P ⟨dst, .build t parts, type, pos, after, g⟩ a B0 β H w (.agg cs) H := by
  obtain ⟨zv, hzv, hzc⟩ := run_zero (P := P) hz w
  have hp := parts_rel hs hq hl
  obtain ⟨xs, h1, h2⟩ := fill_rel hp (hzc β) hc
  refine .same hr (x := .agg xs.toArray) ?_ ⟨xs, rfl, h2⟩
  have hpm : (parts.map fun (i, x) => (i, a.eval x)).toList = parts.toList.map fun p => (p.1, a.eval p.2) := by simp
  rcases hpl with ⟨fs, pl, hu, hfp, rfl⟩ | ⟨n, e, s, hu, hss, rfl⟩
  · have hm := run_mapM_array (P := P) (w := w) (fun f : Field => do pure (f.offset, ← sizeOf f.type)) fs pl (fieldPlaces_run hfp)
    simp only [execOp, Instr.build, Sem.run_bind, hzv, Result.andThen_ok, run_underlying hu, hm, hpm]
    simp only [List.getElem?_toArray]
    simp only [Array.toArray_toList] at h1
    simp [h1]
  · simp only [execOp, Instr.build, Sem.run_bind, hzv, Result.andThen_ok, run_underlying hu, run_size hss, hpm]
    simp only [Array.toArray_toList] at h1
    simp [h1]

theorem flat_cells {z : List CV} {zs : List Value} (h : Cells β z zs) : ∀ n, Cells β (List.replicate n z).flatten (List.replicate n zs).flatten
  | 0 => by simpa using Cells.nil β
  | n + 1 => by
    rw [List.replicate_succ, List.replicate_succ, List.flatten_cons, List.flatten_cons]
    exact h.append (flat_cells h n)
theorem flat_len {α : Type} (z : List α) : ∀ n, (List.replicate n z).flatten.length = n * z.length
  | 0 => by simp
  | n + 1 => by rw [List.replicate_succ, List.flatten_cons, List.length_append, flat_len z n, Nat.add_mul]; omega
theorem flat_get {α : Type} (z : List α) : ∀ (n i : Nat), i < n * z.length → (List.replicate n z).flatten[i]? = z[i % z.length]?
  | 0, i, h => by simp at h
  | n + 1, i, h => by
    rw [List.replicate_succ, List.flatten_cons]
    by_cases hi : i < z.length
    · rw [List.getElem?_append_left hi, Nat.mod_eq_of_lt hi]
    · rw [List.getElem?_append_right (by omega), flat_get z n (i - z.length) (by rw [Nat.add_mul] at h; omega)]
      congr 1
      exact (Nat.mod_eq_sub_mod (by omega)).symm
theorem zeros_eq (zs : List Value) (n : Nat) : ((Array.range (n * zs.length)).map (fun i => zs.toArray[i % zs.length]!)) = ((List.replicate n zs).flatten).toArray := by
  apply Array.ext_getElem?
  intro i
  simp only [Array.getElem?_map, List.getElem?_toArray]
  by_cases hi : i < n * zs.length
  · rw [flat_get zs n i hi]
    have hz : 0 < zs.length := by rcases Nat.eq_zero_or_pos zs.length with h | h; · rw [h] at hi; simp at hi
                                  · exact h
    have hm : i % zs.length < zs.length := Nat.mod_lt _ hz
    simp [hi, hm]
  · rw [List.getElem?_eq_none (by rw [flat_len]; omega)]
    simp [hi]

theorem ok_slice_new (hr : HR B0 β H w) {e : TypeId} {cs : List CV} {xs : List Value} (hc : Cells β cs xs) {l c : Nat} (hlc : l ≤ c) {o : Oper}
    (h : (execOp a.eval o).run P w = .ok (.value (.slice (some ⟨w.heap.size, 0, none⟩) l c)) (w.alloc (.cells xs.toArray e (0, 0)))) : OpOk P o a B0 β H w (.c (.slice (some (H.length, 0)) l (.exact c))) (H ++ [some ⟨e, cs, .own⟩]) :=
  .value h ⟨_, _, fun _ => hr.newAddr _, fun _ => rfl, rfl, hlc, rfl⟩ (hr.alloc e cs xs .own (.inl rfl) (by rw [hc.1, List.take_length]; exact hc) (fun _ => hc.1.symm))

theorem buildSl_run (hs : SR β σ a) {t e : TypeId} {len s : Nat} {z : List CV} {parts : Array (Nat × Operand)} {qs : List (Nat × Nat × Opd)} (hu : P.underlying t = some (.slice e)) (hz : zeroC P e = some z) (hss : sizeC P e = some s) (hzs : z.length = s) (hle : len * s ≤ 2 ^ 24) (hq : partsC (fun i => some (i * s, s)) parts.toList = some qs)
    {l : List (Nat × Nat × List CV)} (hl : partsA σ qs = some l) {cs : List CV} (hc : fillC (List.replicate len z).flatten l = some cs) :
    ∃ xs : List Value, Cells β cs xs ∧ (execOp a.eval ⟨dst, .buildSlice t len parts, type, pos, after, g⟩).run P w = .ok (.value (.slice (some ⟨w.heap.size, 0, none⟩) len len)) (w.alloc (.cells xs.toArray e (0, 0))) := by
  obtain ⟨zv, hzv, hzc⟩ := run_zero (P := P) hz w
  have hp := parts_rel hs hq hl
  have hzl : zv.cells.toList.length = s := by rw [← (hzc β).1]; exact hzs
  obtain ⟨xs, h1, h2⟩ := fill_rel hp (flat_cells (hzc β) len) hc
  refine ⟨xs, h2, ?_⟩
  have hpm : (parts.map fun (i, x) => (i, a.eval x)).toList = parts.toList.map fun p => (p.1, a.eval p.2) := by simp
  have hz0 : (Array.range (len * s)).map (fun i => zv.cells[i % zv.cells.size]!) = ((List.replicate len zv.cells.toList).flatten).toArray := by
    have := zeros_eq zv.cells.toList len
    rw [hzl] at this
    rw [← this]
    simp [← hzl]
  have hnot : ¬ (len * s > 2 ^ 24) := by omega
  simp only [execOp, Instr.buildSlice, Sem.run_bind, run_underlying hu, Result.andThen_ok, run_size hss, hpm]
  rw [if_neg hnot]
  simp only [Sem.run_pure]
  by_cases h0 : len * s = 0
  · have hnil : (List.replicate len zv.cells.toList).flatten = [] := List.length_eq_zero_iff.1 (by rw [flat_len, hzl]; exact h0)
    rw [hnil] at h1
    rw [if_pos h0]
    have hE : (Array.range (len * s)).map (fun i => (#[] : Array Value)[i % (#[] : Array Value).size]!) = #[] := by rw [h0]; simp
    simp only [pure_bind]
    rw [hE, h1]
    simp [newRow]
  · rw [if_neg h0]
    simp only [Sem.run_bind, hzv, Result.andThen_ok, Sem.run_pure]
    rw [hz0, h1]
    simp [newRow]

/-! ### Cuts -/
theorem ok_buildSl (hs : SR β σ a) (hr : HR B0 β H w) {t e : TypeId} {len s : Nat} {z : List CV} {parts : Array (Nat × Operand)} {qs : List (Nat × Nat × Opd)} (hu : P.underlying t = some (.slice e)) (hz : zeroC P e = some z) (hss : sizeC P e = some s) (hzs : z.length = s) (hle : len * s ≤ 2 ^ 24) (hq : partsC (fun i => some (i * s, s)) parts.toList = some qs)
    {l : List (Nat × Nat × List CV)} (hl : partsA σ qs = some l) {cs : List CV} (hc : fillC (List.replicate len z).flatten l = some cs) :
    OpOk P ⟨dst, .buildSlice t len parts, type, pos, after, g⟩ a B0 β H w (.c (.slice (some (H.length, 0)) len (.exact len))) (H ++ [some ⟨e, cs, .own⟩]) := by
  obtain ⟨xs, h1, h2⟩ := buildSl_run (dst := dst) (type := type) (pos := pos) (after := after) (g := g) (w := w) hs hu hz hss hzs hle hq hl hc
  exact ok_slice_new hr h1 (Nat.le_refl _) h2

theorem optInt_rel (hs : SR β σ a) {x : Option Operand} {y : Option Opd} (hc : cOpt x = some y) {n : Option Int} (h : optInt σ y = some n) :
    (x = none ∧ y = none ∧ n = none) ∨ ∃ x0 k m, x = some x0 ∧ n = some m ∧ a.eval x0 = .int k m := by
  cases x with
  | none => simp [cOpt] at hc; subst hc; simp [optInt] at h; exact .inl ⟨rfl, rfl, h.symm⟩
  | some x0 =>
    simp [cOpt] at hc
    obtain ⟨y0, hy0, rfl⟩ := hc
    simp only [optInt] at h
    split at h
    · rename_i k m hm
      simp at h; subst h
      have := cOpd_rel hs hy0
      rw [hm] at this
      exact .inr ⟨x0, k, m, rfl, rfl, rel_int this⟩
    · simp at h

theorem run_sliceBound {k : IntKind} {i : Int} {y : Nat} {code : BoundsCode} (h : 0 ≤ i ∧ i ≤ y) : (Instr.sliceBound (.int k i) y code).run P w = .ok i.toNat w := by
  simp [Instr.sliceBound, asIntOf, h]

theorem cut_bounds (hs : SR β σ a) {lo hi : Option Operand} {lo' hi' : Option Opd} {l h : Option Int} (hcl : cOpt lo = some lo') (hch : cOpt hi = some hi') (hl : optInt σ lo' = some l) (hh : optInt σ hi' = some h)
    (len cap : Nat) (isSlice : Bool) (hle : len ≤ cap) (hb : 0 ≤ l.getD 0 ∧ l.getD 0 ≤ h.getD len ∧ h.getD len ≤ len) :
    (Instr.sliceBounds isSlice len cap (lo.map a.eval) (hi.map a.eval) none).run P w = .ok ((l.getD 0).toNat, (h.getD len).toNat, cap) w := by
  rcases optInt_rel hs hch hh with ⟨rfl, rfl, rfl⟩ | ⟨x1, k1, m1, rfl, rfl, e1⟩ <;> rcases optInt_rel hs hcl hl with ⟨rfl, rfl, rfl⟩ | ⟨x2, k2, m2, rfl, rfl, e2⟩
  · simp [Instr.sliceBounds]
  · simp only [Option.getD_some, Option.getD_none] at hb
    simp [Instr.sliceBounds, e2, run_sliceBound (k := k2) (i := m2) (y := len) ⟨hb.1, by omega⟩]
  · simp only [Option.getD_some, Option.getD_none] at hb
    simp [Instr.sliceBounds, e1, run_sliceBound (k := k1) (i := m1) (y := cap) ⟨by omega, by omega⟩]
  · simp only [Option.getD_some] at hb
    simp [Instr.sliceBounds, e1, e2, run_sliceBound (k := k1) (i := m1) (y := cap) ⟨by omega, by omega⟩, run_sliceBound (k := k2) (i := m2) (y := m1.toNat) ⟨hb.1, by omega⟩]

theorem cut_bounds3 (hs : SR β σ a) {lo hi mx : Option Operand} {lo' hi' mx' : Option Opd} {l h : Option Int} {m : Int} (hcl : cOpt lo = some lo') (hch : cOpt hi = some hi') (hcm : cOpt mx = some mx') (hl : optInt σ lo' = some l) (hh : optInt σ hi' = some h) (hm : optInt σ mx' = some (some m))
    (len cap : Nat) (hle : len ≤ cap) (hb : 0 ≤ l.getD 0 ∧ l.getD 0 ≤ h.getD len ∧ h.getD len ≤ len) (hb2 : h.getD len ≤ m ∧ m ≤ len) (hsome : h.isSome = true) :
    (Instr.sliceBounds true len cap (lo.map a.eval) (hi.map a.eval) (mx.map a.eval)).run P w = .ok ((l.getD 0).toNat, (h.getD len).toNat, m.toNat) w := by
  rcases optInt_rel hs hcm hm with ⟨_, _, h0⟩ | ⟨x3, k3, m3, rfl, h0, e3⟩
  · simp at h0
  simp at h0; subst h0
  rcases optInt_rel hs hch hh with ⟨rfl, rfl, rfl⟩ | ⟨x1, k1, m1, rfl, rfl, e1⟩
  · simp at hsome
  simp only [Option.getD_some] at hb hb2
  rcases optInt_rel hs hcl hl with ⟨rfl, rfl, rfl⟩ | ⟨x2, k2, m2, rfl, rfl, e2⟩
  · simp only [Option.getD_none] at hb
    simp [Instr.sliceBounds, e1, e3, run_sliceBound (k := k3) (i := m) (y := cap) ⟨by omega, by omega⟩, run_sliceBound (k := k1) (i := m1) (y := m.toNat) ⟨by omega, by omega⟩]
  · simp only [Option.getD_some] at hb
    simp [Instr.sliceBounds, e1, e2, e3, run_sliceBound (k := k3) (i := m) (y := cap) ⟨by omega, by omega⟩, run_sliceBound (k := k1) (i := m1) (y := m.toNat) ⟨by omega, by omega⟩, run_sliceBound (k := k2) (i := m2) (y := m1.toNat) ⟨hb.1, by omega⟩]

/-- The cut of a slice: its value, and the relation. -/
theorem cut_rel {s : Nat} {p : Nat × Nat} {len cap l h : Nat} {c : Cap} {ad : Addr} (ha : needsAddr len c = true → AddrRel β p ad) (hsp : needsAddr len c = true → ad.spot = none) (hlc : len ≤ cap) (hcr : CapRel β p cap c) (hlh : l ≤ h) (hhl : h ≤ len) :
    (CV.slice (some (p.1, p.2 + l * s)) (h - l) (capCut s l (h - l) c)).rel β (.slice ((if cap = l then some ad else some (ad.add (l * s)))) (h - l) (cap - l)) := by
  have key : needsAddr (h - l) (capCut s l (h - l) c) = true → AddrRel β (p.1, p.2 + l * s) (if cap = l then ad else ad.add (l * s)) := by
    intro hn
    have hcl : cap ≠ l := by
      intro e
      have h0 : h - l = 0 := by omega
      cases c with
      | exact k => simp [needsAddr, capCut, h0] at hn; simp [CapRel] at hcr; omega
      | toEnd z => simp [needsAddr, capCut, h0] at hn
      | any => simp [needsAddr, capCut, h0] at hn
    rw [if_neg hcl]
    refine (ha ?_).add _
    cases c with
    | exact k => simp [needsAddr, capCut] at hn ⊢; omega
    | toEnd z => rfl
    | any => simp [needsAddr, capCut] at hn ⊢; omega
  refine ⟨if cap = l then ad else ad.add (l * s), cap - l, key, fun hn => (key hn).spot, by split <;> rfl, by omega, ?_⟩
  · cases c with
    | exact k => simp only [CapRel] at hcr; subst hcr; rfl
    | toEnd z =>
      simp only [capCut]
      split
      · trivial
      · rename_i hne
        simp only [not_or, Decidable.not_not] at hne
        obtain ⟨b, o, k, h1, h2⟩ := hcr
        refine ⟨b, o, k, h1, ?_⟩
        rw [hne.2] at h2 ⊢
        have : l * s + (cap - l) * s = cap * s := by rw [← Nat.add_mul]; congr 1; omega
        simp only
        omega
    | any => trivial

theorem ok_sliceS (hs : SR β σ a) (hr : HR B0 β H w) {t e : TypeId} {s : Nat} {x : Operand} {lo hi mx : Option Operand} {x' : Opd} {lo' hi' mx' : Option Opd} (hu : P.underlying t = some (.slice e)) (hss : sizeC P e = some s) (hx : cOpd x = some x') (hcl : cOpt lo = some lo') (hch : cOpt hi = some hi') (hcm : cOpt mx = some mx') {l h m : Option Int} (hl : optInt σ lo' = some l) (hh : optInt σ hi' = some h) (hm : optInt σ mx' = some m)
    (hv : sliceA s (x'.ev σ) l h m = some v) : OpOk P ⟨dst, .slice t x lo hi mx, type, pos, after, g⟩ a B0 β H w v H := by
  have rx := cOpd_rel hs hx
  unfold sliceA at hv
  split at hv
  case h_2 => simp at hv
  rename_i p len c hp
  rw [hp] at rx
  simp only at hv
  split at hv
  case isFalse => simp at hv
  rename_i hb
  have hlh : (l.getD 0).toNat ≤ (h.getD len).toNat := by omega
  have hhl : (h.getD len).toNat ≤ len := by omega
  have hsub : (h.getD len - l.getD 0).toNat = (h.getD len).toNat - (l.getD 0).toNat := by omega
  have hat : ∀ (z : Value), (Instr.slice t (a.eval x) (lo.map a.eval) (hi.map a.eval) (mx.map a.eval)).run P w = .ok z w → (execOp a.eval ⟨dst, .slice t x lo hi mx, type, pos, after, g⟩).run P w = .ok (.value z) w := by
    intro z hz
    simp [execOp, Instr.sliceAt, run_underlying hu, hz]
  cases p with
  | none =>
    obtain ⟨h0, e0⟩ := rx
    subst h0
    have hl0 : (l.getD 0).toNat = 0 := by omega
    have hh0 : (h.getD 0).toNat = 0 := by simp at hhl; omega
    split at hv
    · rcases optInt_rel hs hcm hm with ⟨rfl, rfl, _⟩ | ⟨_, _, _, _, h0, _⟩
      case inr => simp at h0
      simp at hv; subst hv
      have hbd := cut_bounds (P := P) (w := w) hs hcl hch hl hh 0 0 true (Nat.le_refl _) (by simpa using hb)
      refine .same hr (x := .slice none 0 0) (hat _ ?_) ?_
      · simp only [Instr.slice, Sem.run_bind, run_underlying hu, Result.andThen_ok, e0]
        simp only [Option.map_none] at hbd ⊢
        simp only [hbd, Sem.run_bind, Result.andThen_ok, run_size hss, Sem.run_pure]
        simp [hl0, hh0]
      · refine ⟨?_, rfl⟩
        simp at hhl; omega
    · rename_i m' 
      split at hv
      case isFalse => simp at hv
      rename_i hb2
      simp at hv; subst hv
      rcases optInt_rel hs hcm hm with ⟨_, _, h0⟩ | ⟨x3, k3, m3, rfl, h0, e3⟩
      · simp at h0
      have hbd := cut_bounds3 (P := P) (w := w) hs hcl hch hcm hl hh hm 0 0 (Nat.le_refl _) (by simpa using hb) (by simpa using ⟨hb2.1, hb2.2.1⟩) hb2.2.2
      refine .same hr (x := .slice none 0 0) (hat _ ?_) ?_
      · simp only [Instr.slice, Sem.run_bind, run_underlying hu, Result.andThen_ok, e0]
        simp only [Option.map_some] at hbd ⊢
        simp only [hbd, Sem.run_bind, Result.andThen_ok, run_size hss, Sem.run_pure]
        have : m'.toNat = 0 := by have := hb2.2.1; simp at this; omega
        simp [hl0, hh0, this]
      · refine ⟨?_, rfl⟩
        simp at hhl; omega
  | some p =>
    obtain ⟨ad, cap, ha, hsp, e0, hlc, hcr⟩ := rx
    split at hv
    · rcases optInt_rel hs hcm hm with ⟨rfl, rfl, _⟩ | ⟨_, _, _, _, h0, _⟩
      case inr => simp at h0
      simp at hv; subst hv
      have hbd := cut_bounds (P := P) (w := w) hs hcl hch hl hh len cap true hlc hb
      refine .same hr (x := .slice (if cap = (l.getD 0).toNat then some ad else some (ad.add ((l.getD 0).toNat * s))) ((h.getD len).toNat - (l.getD 0).toNat) (cap - (l.getD 0).toNat)) (hat _ ?_) ?_
      · simp only [Instr.slice, Sem.run_bind, run_underlying hu, Result.andThen_ok, e0]
        simp only [Option.map_none] at hbd ⊢
        simp only [hbd, Sem.run_bind, Result.andThen_ok, run_size hss, Sem.run_pure, Option.map_some]
      · rw [hsub]
        exact cut_rel ha hsp hlc hcr hlh hhl
    · rename_i m'
      split at hv
      case isFalse => simp at hv
      rename_i hb2
      simp at hv; subst hv
      rcases optInt_rel hs hcm hm with ⟨_, _, h0⟩ | ⟨x3, k3, m3, rfl, h0, e3⟩
      · simp at h0
      have hbd := cut_bounds3 (P := P) (w := w) hs hcl hch hcm hl hh hm len cap hlc hb ⟨hb2.1, hb2.2.1⟩ hb2.2.2
      refine .same hr (x := .slice (if m'.toNat = (l.getD 0).toNat then some ad else some (ad.add ((l.getD 0).toNat * s))) ((h.getD len).toNat - (l.getD 0).toNat) (m'.toNat - (l.getD 0).toNat)) (hat _ ?_) ?_
      · simp only [Instr.slice, Sem.run_bind, run_underlying hu, Result.andThen_ok, e0]
        simp only [Option.map_some] at hbd ⊢
        simp only [hbd, Sem.run_bind, Result.andThen_ok, run_size hss, Sem.run_pure, Option.map_some]
      · rw [hsub]
        have hsub2 : (m' - l.getD 0).toNat = m'.toNat - (l.getD 0).toNat := by omega
        rw [hsub2]
        have key : needsAddr ((h.getD len).toNat - (l.getD 0).toNat) (Cap.exact (m'.toNat - (l.getD 0).toNat)) = true → AddrRel β (p.1, p.2 + (l.getD 0).toNat * s) (if m'.toNat = (l.getD 0).toNat then ad else ad.add ((l.getD 0).toNat * s)) := by
          intro hn
          have hne : m'.toNat ≠ (l.getD 0).toNat := by
            intro e1
            simp [needsAddr] at hn; omega
          rw [if_neg hne]
          refine (ha ?_).add _
          have : 0 < len := by omega
          cases c <;> simp [needsAddr, this]
        exact ⟨if m'.toNat = (l.getD 0).toNat then ad else ad.add ((l.getD 0).toNat * s), m'.toNat - (l.getD 0).toNat, key, fun hn => (key hn).spot, by split <;> rfl, by omega, rfl⟩

theorem ok_sliceStr (hs : SR β σ a) (hr : HR B0 β H w) {t : TypeId} {x : Operand} {lo hi : Option Operand} {x' : Opd} {lo' hi' : Option Opd} (hu : P.underlying t = some .string) (hx : cOpd x = some x') (hcl : cOpt lo = some lo') (hch : cOpt hi = some hi') {l h : Option Int} (hl : optInt σ lo' = some l) (hh : optInt σ hi' = some h)
    (hv : sliceStrA (x'.ev σ) l h = some v) : OpOk P ⟨dst, .slice t x lo hi none, type, pos, after, g⟩ a B0 β H w v H := by
  have rx := cOpd_rel hs hx
  unfold sliceStrA at hv
  split at hv
  case h_2 => simp at hv
  rename_i s hp
  rw [hp] at rx; have e := rel_str rx
  simp only at hv
  split at hv
  case isFalse => simp at hv
  rename_i hb
  simp at hv; subst hv
  have hbd := cut_bounds (P := P) (w := w) hs hcl hch hl hh s.size s.size false (Nat.le_refl _) hb
  refine .same hr (x := .string (s.extract (l.getD 0).toNat (h.getD s.size).toNat)) ?_ rfl
  simp only [execOp, Sem.run_bind, Instr.sliceAt, run_underlying hu, Result.andThen_ok, Instr.slice, e]
  simp [hbd]

theorem ok_mkSl (hs : SR β σ a) (hr : HR B0 β H w) {t e : TypeId} {x y : Operand} {x' y' : Opd} {z : List CV} {i : TypeInfo} (hu : P.underlying t = some (.slice e)) (hx : cOpd x = some x') (hy : cOpd y = some y') (hz : zeroC P e = some z) (hi : P.info? e = some i) (hzl : z.length = i.size) (hp : 0 < i.size) {k1 k2 : IntKind} {n m : Int} (hn : x'.ev σ = .c (.int k1 n)) (hm : y'.ev σ = .c (.int k2 m)) (hb : 0 ≤ n ∧ n ≤ m ∧ m.toNat * i.bytes ≤ 140737488355328 ∧ 0 < i.bytes) :
    OpOk P ⟨dst, .makeSlice t x y, type, pos, after, g⟩ a B0 β H w (.c (.slice (some (H.length, 0)) n.toNat (.exact m.toNat))) (H ++ [some ⟨e, (List.replicate m.toNat z).flatten, .own⟩]) := by
  have rx := cOpd_rel hs hx; rw [hn] at rx; have e1 := rel_int rx
  have ry := cOpd_rel hs hy; rw [hm] at ry; have e2 := rel_int ry
  obtain ⟨zv, hzv, hzc⟩ := run_zero (P := P) hz w
  have hzl' : zv.cells.toList.length = i.size := by rw [← (hzc β).1]; exact hzl
  refine ok_slice_new hr (flat_cells (hzc β) m.toNat) (by omega) ?_
  have hmb : m.toNat ≤ 140737488355328 := Nat.le_trans (Nat.le_mul_of_pos_right _ hb.2.2.2) hb.2.2.1
  have w1 : IntKind.i64.wrap n = n := IntWalk.i64_in _ (by omega)
  have w2 : IntKind.i64.wrap m = m := IntWalk.i64_in _ (by omega)
  have hmm : (m.toNat : Int) = m := by omega
  have hbm : (i.bytes : Int) * m ≤ 140737488355328 := by
    have h := Int.ofNat_le.2 hb.2.2.1
    have h2 : ((140737488355328 : Nat) : Int) = 140737488355328 := rfl
    rw [Int.natCast_mul, hmm, h2, Int.mul_comm] at h
    exact h
  have hti : (typeInfo e).run P w = .ok i w := by simp [typeInfo, hi]
  have hsz : (sizeOf e).run P w = .ok i.size w := by simp [sizeOf, hti]
  have hz0 : (Array.range (m.toNat * i.size)).map (fun j => zv.cells[j % zv.cells.size]!) = ((List.replicate m.toNat zv.cells.toList).flatten).toArray := by
    have := zeros_eq zv.cells.toList m.toNat
    rw [hzl'] at this
    rw [← this]
    simp [← hzl']
  have hcond : (decide (m < 0) || decide ((i.bytes : Int) * m > 2 ^ 48) || decide (n < 0) || decide (n > m)) = false := by
    rw [decide_eq_false (show ¬ m < 0 by omega), decide_eq_false (show ¬ (i.bytes : Int) * m > 2 ^ 48 by omega), decide_eq_false (show ¬ n < 0 by omega), decide_eq_false (show ¬ n > m by omega)]
    rfl
  have hrow : ∀ cells : Array Value, (newRow e cells).run P w = .ok ⟨w.heap.size, 0, none⟩ (w.alloc (.cells cells e (0, 0))) := fun cells => by simp [newRow]
  simp only [execOp, Instr.makeSlice, Sem.run_bind, run_underlying hu, Result.andThen_ok, e1, e2, asInt, asIntOf, hti, w1, w2, Sem.run_pure]
  rw [if_neg (by rw [hcond]; exact Bool.false_ne_true)]
  simp only [Sem.run_bind, run_askRoom, Result.andThen_ok, hsz]
  by_cases h0 : m.toNat * i.size = 0
  · have hm0 : m.toNat = 0 := by
      rcases Nat.mul_eq_zero.1 h0 with h | h
      · exact h
      · omega
    rw [if_pos h0]
    have hE : (Array.range (m.toNat * i.size)).map (fun i => (#[] : Array Value)[i % (#[] : Array Value).size]!) = #[] := by rw [h0]; simp
    simp only [pure_bind, Sem.run_bind]
    rw [hE, hrow]
    simp [hm0]
  · rw [if_neg h0]
    simp only [Sem.run_bind, hzv, Result.andThen_ok, pure_bind]
    rw [hz0, hrow]
    simp

end
end Go.Proofs.YtmockobmiagbcaaDoor.VI
