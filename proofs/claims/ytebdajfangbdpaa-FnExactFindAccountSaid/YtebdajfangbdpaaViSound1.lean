/- An interpreter over an abstract heap, and its soundness over the machine: part Sound1. -/
import Derived.Test.YtebdajfangbdpaaViComp
import Derived.Laws.Entries
import Derived.ChangeKeysEq
set_option linter.unusedVariables false
set_option linter.unusedSimpArgs false
set_option linter.unusedSectionVars false
namespace Go.Proofs.Ytebdajfangbdpaa.VI
open Go Go.RowKit

structure SR (β : Beta) (σ : Sl) (a : Act) : Prop where
  at_ : ∀ i, (σ i).rel β (a.tmps.getD i Go.undef)

theorem SR.ext {β β' : Beta} {σ : Sl} {a : Act} (h : SR β σ a) (he : Ext β β') : SR β' σ a := ⟨fun i => AV.rel_ext he (h.at_ i)⟩

theorem SR.put {β : Beta} {σ : Sl} {a : Act} (h : SR β σ a) {d : Option Nat} {v : AV} {x : Value} (hd : ∀ k, d = some k → k < a.tmps.size) (hv : v.rel β x) : SR β (putS σ d v) (a.put d x) := by
  cases d with
  | none => exact h
  | some k =>
    refine ⟨fun i => ?_⟩
    have hk := hd k rfl
    simp only [putS, upd, Act.put, Array.getD_eq_getD_getElem?, Array.getElem?_setIfInBounds]
    by_cases hi : i = k
    · subst hi; simp [hk, hv]
    · rw [if_neg hi, if_neg (fun e => hi e.symm)]
      have := h.at_ i
      simpa using this

theorem put_size {a : Act} {d : Option Nat} {x : Value} : (a.put d x).tmps.size = a.tmps.size := by
  cases d <;> simp [Act.put]

/-! ### Operands -/
theorem constC_rel {β : Beta} {v : Value} {c : CV} (h : constC v = some c) : c.rel β v := by
  unfold constC at h
  split at h <;> simp at h <;> subst h <;> simp [CV.rel]
theorem constCs_rel {β : Beta} : ∀ {vs : List Value} {cs : List CV}, constCs vs = some cs → Cells β cs vs
  | [], cs, h => by simp [constCs] at h; subst h; exact Cells.nil β
  | v :: r, cs, h => by
    simp only [constCs] at h
    split at h
    · rename_i c l hc hl
      simp at h; subst h
      exact Cells.cons (constC_rel hc) (constCs_rel hl)
    · simp at h
theorem constA_rel {β : Beta} {v : Value} {c : AV} (h : constA v = some c) : c.rel β v := by
  unfold constA at h
  split at h
  · rename_i cs
    simp at h; obtain ⟨l, hl, rfl⟩ := h
    exact ⟨cs.toList, by simp, constCs_rel hl⟩
  · simp at h; obtain ⟨l, hl, rfl⟩ := h
    exact constC_rel hl
theorem cOpd_rel {β : Beta} {σ : Sl} {a : Act} (hs : SR β σ a) {x : Operand} {y : Opd} (h : cOpd x = some y) : (y.ev σ).rel β (a.eval x) := by
  cases x with
  | tmp t => simp [cOpd] at h; subst h; exact hs.at_ t
  | const v => simp [cOpd] at h; obtain ⟨c, hc, rfl⟩ := h; exact constA_rel hc
  | func f => simp [cOpd] at h; subst h; exact ⟨[], rfl, rfl, fun j p hp => by simp at hp⟩
  | global g => simp [cOpd] at h

/-- A list of values. -/
def Vals (β : Beta) (vs : List AV) (xs : List Value) : Prop := vs.length = xs.length ∧ ∀ (j : Nat) (v : AV), vs[j]? = some v → ∃ x, xs[j]? = some x ∧ v.rel β x
theorem Vals.nil (β : Beta) : Vals β [] [] := ⟨rfl, fun j c h => by simp at h⟩
theorem Vals.cons {β : Beta} {v : AV} {x : Value} {vs : List AV} {xs : List Value} (h : v.rel β x) (k : Vals β vs xs) : Vals β (v :: vs) (x :: xs) :=
  ⟨by simp [k.1], fun j c hc => by
    cases j with
    | zero => simp at hc; subst hc; exact ⟨x, rfl, h⟩
    | succ j => exact k.2 j c (by simpa using hc)⟩
theorem Vals.append {β : Beta} {a b : List AV} {x y : List Value} (h : Vals β a x) (k : Vals β b y) : Vals β (a ++ b) (x ++ y) := by
  refine ⟨by simp [h.1, k.1], fun j c hc => ?_⟩
  by_cases hj : j < a.length
  · rw [List.getElem?_append_left hj] at hc
    obtain ⟨u, h1, h2⟩ := h.2 j c hc
    exact ⟨u, by rw [List.getElem?_append_left (by rw [← h.1]; exact hj)]; exact h1, h2⟩
  · rw [List.getElem?_append_right (by omega)] at hc
    obtain ⟨u, h1, h2⟩ := k.2 _ c hc
    exact ⟨u, by rw [List.getElem?_append_right (by rw [← h.1]; omega), ← h.1]; exact h1, h2⟩
theorem Vals.cons_inv {β : Beta} {v : AV} {vs : List AV} {xs : List Value} (k : Vals β (v :: vs) xs) : ∃ x xs', xs = x :: xs' ∧ v.rel β x ∧ Vals β vs xs' := by
  cases xs with
  | nil => have := k.1; simp at this
  | cons x xs' =>
    obtain ⟨y, h1, h2⟩ := k.2 0 v rfl
    simp at h1; subst h1
    exact ⟨x, xs', rfl, h2, by have := k.1; simpa using this, fun j d hd => by
      obtain ⟨z, h3, h4⟩ := k.2 (j + 1) d (by simpa using hd)
      exact ⟨z, by simpa using h3, h4⟩⟩
theorem cOpds_rel {β : Beta} {σ : Sl} {a : Act} (hs : SR β σ a) : ∀ {xs : List Operand} {ys : List Opd}, cOpds xs = some ys → Vals β (ys.map (Opd.ev σ)) (xs.map a.eval)
  | [], ys, h => by simp [cOpds] at h; subst h; exact Vals.nil β
  | x :: r, ys, h => by
    simp only [cOpds] at h
    split at h
    · rename_i c l hc hl
      simp at h; subst h
      exact Vals.cons (cOpd_rel hs hc) (cOpds_rel hs hl)
    · simp at h

/-! ### What a value's form tells of its partner -/
theorem rel_int {β : Beta} {k : IntKind} {n : Int} {x : Value} (h : (AV.c (.int k n)).rel β x) : x = .int k n := h
theorem rel_bool {β : Beta} {b : Bool} {x : Value} (h : (AV.c (.bool b)).rel β x) : x = .bool b := h
theorem rel_str {β : Beta} {s : ByteArray} {x : Value} (h : (AV.c (.str s)).rel β x) : x = .string s := h
theorem rel_ptr {β : Beta} {p : Nat × Nat} {x : Value} (h : (AV.c (.ptr (some p))).rel β x) : ∃ a, AddrRel β p a ∧ x = .pointer (some a) := h
theorem rel_agg {β : Beta} {cs : List CV} {x : Value} (h : (AV.agg cs).rel β x) : ∃ xs : List Value, x = .agg xs.toArray ∧ Cells β cs xs := h

/-! ### Types -/
theorem run_size {P : Program} {t : TypeId} {n : Nat} (h : sizeC P t = some n) (w : World) : (sizeOf t).run P w = .ok n w := by
  unfold sizeC at h
  cases hi : P.info? t with
  | none => simp [hi] at h
  | some i => simp [hi] at h; subst h; simp [sizeOf, typeInfo, hi]
theorem run_isAgg {P : Program} {t : TypeId} {b : Bool} (h : isAggC P t = some b) (w : World) : (isAgg t).run P w = .ok b w := by
  unfold isAggC at h
  split at h
  · rename_i fs hu; simp at h; subst h; simp [isAgg, run_underlying hu]
  · rename_i n e hu; simp at h; subst h; simp [isAgg, run_underlying hu]
  · rename_i d h1 h2 hu
    simp at h; subst h
    simp only [isAgg, Sem.run_bind, run_underlying hu, Result.andThen_ok, Sem.run_pure]
  · simp at h
theorem run_zero {P : Program} {t : TypeId} {z : List CV} (h : zeroC P t = some z) (w : World) : ∃ v : Value, (zeroValue t).run P w = .ok v w ∧ ∀ β, Cells β z v.cells.toList := by
  unfold zeroC at h
  split at h
  · rename_i i hi
    split at h
    · rename_i v hv
      refine ⟨v, ?_, fun β => constCs_rel h⟩
      simp [zeroValue, typeInfo, hi, hv]
    · simp at h
  · simp at h

/-! ### One operation -/
def OpOk (P : Program) (o : Oper) (a : Act) (B0 : Nat) (β : Beta) (H : AHeap) (w : World) (v : AV) (H' : AHeap) : Prop :=
  ∃ β' x w', ((execOp a.eval o).run P w = .ok (.value x) w' ∨ ((execOp a.eval o).run P w = .ok .skip w' ∧ x = Go.undef)) ∧ v.rel β' x ∧ Go_ B0 β H w β' H' w'

theorem OpOk.value {P : Program} {o : Oper} {a : Act} {B0 : Nat} {β β' : Beta} {H : AHeap} {w w' : World} {v : AV} {H' : AHeap} {x : Value} (h : (execOp a.eval o).run P w = .ok (.value x) w') (hv : v.rel β' x) (hg : Go_ B0 β H w β' H' w') : OpOk P o a B0 β H w v H' :=
  ⟨β', x, w', .inl h, hv, hg⟩
theorem OpOk.same {P : Program} {o : Oper} {a : Act} {B0 : Nat} {β : Beta} {H : AHeap} {w : World} {v : AV} {x : Value} (hr : HR B0 β H w) (h : (execOp a.eval o).run P w = .ok (.value x) w) (hv : v.rel β x) : OpOk P o a B0 β H w v H :=
  ⟨β, x, w, .inl h, hv, .refl hr⟩

section
variable {P : Program} {call : CallA} {B0 : Nat} {β : Beta} {H H' : AHeap} {σ : Sl} {a : Act} {w : World} {v : AV} {dst : Option Tmp} {type : TypeId} {pos : String} {after : Array Edge} {g : Option (Nat × Bool)}

theorem ok_move (hs : SR β σ a) (hr : HR B0 β H w) {x : Operand} {y : Opd} (hc : cOpd x = some y) : OpOk P ⟨dst, .move x, type, pos, after, g⟩ a B0 β H w (y.ev σ) H :=
  .same hr (by simp [execOp]) (cOpd_rel hs hc)
theorem ok_assign (hs : SR β σ a) (hr : HR B0 β H w) {x : Operand} {y : Opd} (hc : cOpd x = some y) : OpOk P ⟨dst, .assign x, type, pos, after, g⟩ a B0 β H w (y.ev σ) H :=
  .same hr (by simp [execOp]) (cOpd_rel hs hc)
theorem ok_pick (hs : SR β σ a) (hr : HR B0 β H w) {c x y : Operand} {c' x' y' : Opd} (hc : cOpd c = some c') (hx : cOpd x = some x') (hy : cOpd y = some y') {t : Bool} (ht : c'.ev σ = .c (.bool t)) :
    OpOk P ⟨dst, .pick c x y, type, pos, after, g⟩ a B0 β H w (if t then x'.ev σ else y'.ev σ) H := by
  have h1 := cOpd_rel hs hc; rw [ht] at h1; have h1 := rel_bool h1
  refine .same hr (x := if t then a.eval x else a.eval y) (by simp [execOp, h1, asBool]) ?_
  cases t
  · exact cOpd_rel hs hy
  · exact cOpd_rel hs hx

theorem ok_new (hr : HR B0 β H w) {e : TypeId} {cs : List CV} {xs : List Value} (hc : Cells β cs xs) {o : Oper}
    (h : (execOp a.eval o).run P w = .ok (.value (.pointer (some ⟨w.heap.size, 0, none⟩))) (w.alloc (.cells xs.toArray e (0, 0)))) : OpOk P o a B0 β H w (.c (.ptr (some (H.length, 0)))) (H ++ [some ⟨e, cs, .own⟩]) :=
  .value h ⟨_, hr.newAddr _, rfl⟩ (hr.alloc e cs xs .own (.inl rfl) (by rw [hc.1, List.take_length]; exact hc) (fun _ => hc.1.symm))

theorem ok_alloc (hr : HR B0 β H w) {e : TypeId} {z : List CV} (hz : zeroC P e = some z) : OpOk P ⟨dst, .alloc e, type, pos, after, g⟩ a B0 β H w (.c (.ptr (some (H.length, 0)))) (H ++ [some ⟨e, z, .own⟩]) := by
  obtain ⟨x, hx, hc⟩ := run_zero (P := P) hz w
  exact ok_new hr (xs := x.cells.toList) (hc β) (by simp [execOp, Instr.alloc, newVar, newRow, hx])
theorem ok_box (hs : SR β σ a) (hr : HR B0 β H w) {e : TypeId} {x : Operand} {y : Opd} (hx : cOpd x = some y) {cs : List CV} (hc : (y.ev σ).cells? = some cs) : OpOk P ⟨dst, .box e x, type, pos, after, g⟩ a B0 β H w (.c (.ptr (some (H.length, 0)))) (H ++ [some ⟨e, cs, .own⟩]) := by
  obtain ⟨xs, h1, h2⟩ := AV.cells_rel hc (cOpd_rel hs hx)
  exact ok_new hr h2 (by simp [execOp, Instr.box, newVar, newRow, h1])

theorem ok_load1 (hs : SR β σ a) (hr : HR B0 β H w) {t : TypeId} {x : Operand} {y : Opd} (ht : isAggC P t = some false) (hx : cOpd x = some y) {p : Nat × Nat} (hp : y.ev σ = .c (.ptr (some p))) {c : CV} (hc : readCell H p = some c) :
    OpOk P ⟨dst, .load t x, type, pos, after, g⟩ a B0 β H w (.c c) H := by
  have h1 := cOpd_rel hs hx; rw [hp] at h1; obtain ⟨ad, ha, h1⟩ := rel_ptr h1
  obtain ⟨u, h2, h3⟩ := hr.readCell hc ha
  exact .same hr (by simp [execOp, Instr.loadAt, Instr.sureAddr, h1, loadVar, run_isAgg ht, h2]) h3
theorem ok_loadN (hs : SR β σ a) (hr : HR B0 β H w) {t : TypeId} {n : Nat} {x : Operand} {y : Opd} (ht : isAggC P t = some true) (hn : sizeC P t = some n) (hx : cOpd x = some y) {p : Nat × Nat} (hp : y.ev σ = .c (.ptr (some p))) {cs : List CV} (hc : readCells H p n = some cs) :
    OpOk P ⟨dst, .load t x, type, pos, after, g⟩ a B0 β H w (.agg cs) H := by
  have h1 := cOpd_rel hs hx; rw [hp] at h1; obtain ⟨ad, ha, h1⟩ := rel_ptr h1
  obtain ⟨xs, hl, h2, h3⟩ := hr.loadCells (P := P) hc ha
  exact .same hr (x := .agg xs.toArray) (by simp [execOp, Instr.loadAt, Instr.sureAddr, h1, loadVar, run_isAgg ht, run_size hn, h2]) ⟨xs, rfl, h3⟩
theorem ok_store (hs : SR β σ a) (hr : HR B0 β H w) {t : TypeId} {n : Nat} {x y : Operand} {x' y' : Opd} (hn : sizeC P t = some n) (hx : cOpd x = some x') (hy : cOpd y = some y') {p : Nat × Nat} (hp : x'.ev σ = .c (.ptr (some p))) {cs : List CV} (hc : (y'.ev σ).cells? = some cs) (hl : cs.length = n) (hw : writeCells H p cs = some H') :
    OpOk P ⟨dst, .store t x y, type, pos, after, g⟩ a B0 β H w (.c .undef) H' := by
  have h1 := cOpd_rel hs hx; rw [hp] at h1; obtain ⟨ad, ha, h1⟩ := rel_ptr h1
  obtain ⟨xs, h2, h3⟩ := AV.cells_rel hc (cOpd_rel hs hy)
  obtain ⟨w', h4, h5⟩ := hr.store (P := P) hw ha h3
  have hsz : xs.length = n := by rw [← h3.1]; exact hl
  refine ⟨β, Go.undef, w', .inr ⟨?_, rfl⟩, rfl, h5⟩
  simp [execOp, Instr.storeAt, Instr.sureAddr, h1, storeVar, run_size hn, h2, hsz, h4]
theorem ok_nilchk_ptr (hs : SR β σ a) (hr : HR B0 β H w) {x : Operand} {y : Opd} (hx : cOpd x = some y) {p : Nat × Nat} (hp : y.ev σ = .c (.ptr (some p))) : OpOk P ⟨dst, .nilCheck x, type, pos, after, g⟩ a B0 β H w (.c (.ptr (some p))) H := by
  have h1 := cOpd_rel hs hx; rw [hp] at h1; obtain ⟨ad, ha, h1⟩ := rel_ptr h1
  exact .same hr (x := .pointer (some ad)) (by simp [execOp, h1]) ⟨ad, ha, rfl⟩
theorem ok_nilchk_fn (hs : SR β σ a) (hr : HR B0 β H w) {x : Operand} {y : Opd} (hx : cOpd x = some y) {f : FuncId} {cs : List (Nat × Nat)} (hp : y.ev σ = .c (.fn f cs)) : OpOk P ⟨dst, .nilCheck x, type, pos, after, g⟩ a B0 β H w (.c (.fn f cs)) H := by
  have h1 := cOpd_rel hs hx; rw [hp] at h1
  obtain ⟨l, h2, h3⟩ := h1
  exact .same hr (x := .func (.func f) #[] l.toArray) (by simp [execOp, h2]) ⟨l, rfl, h3⟩
theorem ok_ext (hs : SR β σ a) (hr : HR B0 β H w) {x : Operand} {y : Opd} (hx : cOpd x = some y) {vs : List V0} (hp : y.ev σ = .tup vs) {i : Nat} {u : V0} (hu : vs[i]? = some u) : OpOk P ⟨dst, .extract x i, type, pos, after, g⟩ a B0 β H w u.toAV H := by
  have h1 := cOpd_rel hs hx; rw [hp] at h1
  obtain ⟨xs, h2, h3, h4⟩ := h1
  obtain ⟨z, h5, h6⟩ := h4 i u hu
  refine .same hr (x := z) (by simp [execOp, Instr.extract, h2, h5]) ?_
  cases u <;> exact h6

/-! ### Addresses -/
theorem ok_idxA (hs : SR β σ a) (hr : HR B0 β H w) {t e : TypeId} {n s : Nat} {x i : Operand} {x' i' : Opd} (ht : P.underlying t = some (.array n e)) (he : sizeC P e = some s) (hx : cOpd x = some x') (hi : cOpd i = some i') {p : Nat × Nat} (hp : x'.ev σ = .c (.ptr (some p))) {k : IntKind} {m : Int} (hm : i'.ev σ = .c (.int k m)) (hb : 0 ≤ m ∧ m < n) :
    OpOk P ⟨dst, .indexAddr t x i, type, pos, after, g⟩ a B0 β H w (.c (.ptr (some (p.1, p.2 + m.toNat * s)))) H := by
  have h1 := cOpd_rel hs hx; rw [hp] at h1; obtain ⟨ad, ha, h1⟩ := rel_ptr h1
  have h2 := cOpd_rel hs hi; rw [hm] at h2; have h2 := rel_int h2
  refine .same hr (x := .pointer (some (ad.add (m.toNat * s)))) ?_ ⟨_, ha.add _, rfl⟩
  simp [execOp, Instr.indexAt, h1, h2, asIntOf, run_underlying ht, Instr.sureAddr, hb, run_size he]
theorem ok_idxS (hs : SR β σ a) (hr : HR B0 β H w) {t e : TypeId} {s : Nat} {x i : Operand} {x' i' : Opd} (ht : P.underlying t = some (.slice e)) (he : sizeC P e = some s) (hx : cOpd x = some x') (hi : cOpd i = some i') {p : Nat × Nat} {l : Nat} {cap : Cap} (hp : x'.ev σ = .c (.slice (some p) l cap)) {k : IntKind} {m : Int} (hm : i'.ev σ = .c (.int k m)) (hb : 0 ≤ m ∧ m < l) :
    OpOk P ⟨dst, .indexAddr t x i, type, pos, after, g⟩ a B0 β H w (.c (.ptr (some (p.1, p.2 + m.toNat * s)))) H := by
  have h1 := cOpd_rel hs hx; rw [hp] at h1; obtain ⟨ad, c, ha, _, h1, _⟩ := h1
  have h2 := cOpd_rel hs hi; rw [hm] at h2; have h2 := rel_int h2
  have ha : AddrRel β p ad := ha (by cases cap <;> simp [needsAddr] <;> omega)
  refine .same hr (x := .pointer (some (ad.add (m.toNat * s)))) ?_ ⟨_, ha.add _, rfl⟩
  simp [execOp, Instr.indexAt, h1, h2, asIntOf, run_underlying ht, hb, run_size he]
theorem ok_fldA (hs : SR β σ a) (hr : HR B0 β H w) {t : TypeId} {fs : Array Field} {f n : Nat} {fd : Field} {x : Operand} {x' : Opd} (ht : P.underlying t = some (.struct fs)) (hf : fs[f]? = some fd) (hn : sizeC P fd.type = some (n + 1)) (hx : cOpd x = some x') {p : Nat × Nat} (hp : x'.ev σ = .c (.ptr (some p))) :
    OpOk P ⟨dst, .fieldAddr t x f, type, pos, after, g⟩ a B0 β H w (.c (.ptr (some (p.1, p.2 + fd.offset)))) H := by
  have h1 := cOpd_rel hs hx; rw [hp] at h1; obtain ⟨ad, ha, h1⟩ := rel_ptr h1
  refine .same hr (x := .pointer (some (ad.add fd.offset))) ?_ ⟨_, ha.add _, rfl⟩
  simp [execOp, Instr.fieldAt, run_underlying ht, hf, h1, Instr.sureAddr, fieldPlace, run_size hn]

/-! ### Parts of aggregates -/
theorem run_partN {t : TypeId} {n : Nat} (ht : isAggC P t = some true) (hn : sizeC P t = some n) (xs : List Value) (off : Nat) : (part t xs.toArray off).run P w = .ok (.agg ((xs.drop off).take n).toArray) w := by
  simp [part, run_isAgg ht, run_size hn]
theorem run_part1 {t : TypeId} (ht : isAggC P t = some false) {xs : List Value} {off : Nat} {u : Value} (hu : xs[off]? = some u) : (part t xs.toArray off).run P w = .ok u w := by
  simp [part, run_isAgg ht, hu]
theorem ok_fldN (hs : SR β σ a) (hr : HR B0 β H w) {t : TypeId} {fs : Array Field} {f n : Nat} {fd : Field} {x : Operand} {x' : Opd} (ht : P.underlying t = some (.struct fs)) (hf : fs[f]? = some fd) (hg : isAggC P fd.type = some true) (hn : sizeC P fd.type = some n) (hx : cOpd x = some x') {cs : List CV} (hp : x'.ev σ = .agg cs) :
    OpOk P ⟨dst, .field t x f, type, pos, after, g⟩ a B0 β H w (.agg ((cs.drop fd.offset).take n)) H := by
  have h1 := cOpd_rel hs hx; rw [hp] at h1; obtain ⟨xs, h1, hc⟩ := rel_agg h1
  refine .same hr (x := .agg ((xs.drop fd.offset).take n).toArray) ?_ ⟨_, rfl, (hc.drop _).take _⟩
  simp [execOp, Instr.field, run_underlying ht, hf, h1, asAgg, run_partN hg hn]
theorem ok_fld1 (hs : SR β σ a) (hr : HR B0 β H w) {t : TypeId} {fs : Array Field} {f : Nat} {fd : Field} {x : Operand} {x' : Opd} (ht : P.underlying t = some (.struct fs)) (hf : fs[f]? = some fd) (hg : isAggC P fd.type = some false) (hx : cOpd x = some x') {cs : List CV} (hp : x'.ev σ = .agg cs) {c : CV} (hc0 : cs[fd.offset]? = some c) :
    OpOk P ⟨dst, .field t x f, type, pos, after, g⟩ a B0 β H w (.c c) H := by
  have h1 := cOpd_rel hs hx; rw [hp] at h1; obtain ⟨xs, h1, hc⟩ := rel_agg h1
  obtain ⟨u, h2, h3⟩ := hc.2 _ c hc0
  exact .same hr (x := u) (by simp [execOp, Instr.field, run_underlying ht, hf, h1, asAgg, run_part1 hg h2]) h3
theorem ok_idxN (hs : SR β σ a) (hr : HR B0 β H w) {t e : TypeId} {n s : Nat} {x i : Operand} {x' i' : Opd} (ht : P.underlying t = some (.array n e)) (hg : isAggC P e = some true) (he : sizeC P e = some s) (hx : cOpd x = some x') (hi : cOpd i = some i') {cs : List CV} (hp : x'.ev σ = .agg cs) {k : IntKind} {m : Int} (hm : i'.ev σ = .c (.int k m)) (hb : 0 ≤ m ∧ m < n) :
    OpOk P ⟨dst, .index t x i, type, pos, after, g⟩ a B0 β H w (.agg ((cs.drop (m.toNat * s)).take s)) H := by
  have h1 := cOpd_rel hs hx; rw [hp] at h1; obtain ⟨xs, h1, hc⟩ := rel_agg h1
  have h2 := cOpd_rel hs hi; rw [hm] at h2; have h2 := rel_int h2
  refine .same hr (x := .agg ((xs.drop (m.toNat * s)).take s).toArray) ?_ ⟨_, rfl, (hc.drop _).take _⟩
  simp [execOp, Instr.index, h1, h2, asIntOf, run_underlying ht, hb, run_size he, run_partN hg he]
theorem ok_idx1 (hs : SR β σ a) (hr : HR B0 β H w) {t e : TypeId} {n : Nat} {x i : Operand} {x' i' : Opd} (ht : P.underlying t = some (.array n e)) (hg : isAggC P e = some false) (he : sizeC P e = some 1) (hx : cOpd x = some x') (hi : cOpd i = some i') {cs : List CV} (hp : x'.ev σ = .agg cs) {k : IntKind} {m : Int} (hm : i'.ev σ = .c (.int k m)) (hb : 0 ≤ m ∧ m < n) {c : CV} (hc0 : cs[m.toNat]? = some c) :
    OpOk P ⟨dst, .index t x i, type, pos, after, g⟩ a B0 β H w (.c c) H := by
  have h1 := cOpd_rel hs hx; rw [hp] at h1; obtain ⟨xs, h1, hc⟩ := rel_agg h1
  have h2 := cOpd_rel hs hi; rw [hm] at h2; have h2 := rel_int h2
  obtain ⟨u, h3, h4⟩ := hc.2 _ c hc0
  exact .same hr (x := u) (by simp [execOp, Instr.index, h1, h2, asIntOf, run_underlying ht, hb, run_size he, run_part1 hg h3]) h4
theorem ok_idxStr (hs : SR β σ a) (hr : HR B0 β H w) {t : TypeId} {x i : Operand} {x' i' : Opd} (ht : P.underlying t = some .string) (hx : cOpd x = some x') (hi : cOpd i = some i') {s : ByteArray} (hp : x'.ev σ = .c (.str s)) {k : IntKind} {m : Int} (hm : i'.ev σ = .c (.int k m)) (hb : 0 ≤ m) {c : UInt8} (hc : s[m.toNat]? = some c) :
    OpOk P ⟨dst, .index t x i, type, pos, after, g⟩ a B0 β H w (.c (.int .u8 c.toNat)) H := by
  have h1 := cOpd_rel hs hx; rw [hp] at h1; have h1 := rel_str h1
  have h2 := cOpd_rel hs hi; rw [hm] at h2; have h2 := rel_int h2
  exact .same hr (x := .int .u8 c.toNat) (by simp [execOp, Instr.index, h1, h2, asIntOf, run_underlying ht, hb, hc]) rfl
end

end Go.Proofs.Ytebdajfangbdpaa.VI
