/- An interpreter over an abstract heap, and its soundness over the machine: part C. -/
import Derived.Test.YtmockobmiagbcaaDoorViB
import Derived.Laws.Append
import Derived.Laws.BytesString
import Derived.Test.YtmockobmiagbcaaDoorViA
set_option linter.unusedVariables false
set_option linter.unusedSimpArgs false
set_option linter.unusedSectionVars false
namespace Go.Proofs.YtmockobmiagbcaaDoor.VI
open Go Go.RowKit

section
variable {P : Program} {call : CallA} {B0 : Nat} {β : Beta} {H H' : AHeap} {σ : Sl} {a : Act} {w : World} {v : AV} {dst : Option Tmp} {type : TypeId} {pos : String} {after : Array Edge} {g : Option (Nat × Bool)}

theorem capsA_rel (hs : SR β σ a) : ∀ {xs : List Operand} {ys : List Opd} {l : List (Nat × Nat)}, cOpds xs = some ys → capsA σ ys = some l →
    l.length = xs.length ∧ ∀ (j : Nat) (p : Nat × Nat), l[j]? = some p → ∃ ad : Addr, AddrRel β p ad ∧ (xs.map a.eval)[j]? = some (Value.pointer (some ad))
  | [], ys, l, h1, h2 => by
    simp [cOpds] at h1; subst h1
    simp [capsA] at h2; subst h2
    exact ⟨rfl, fun j p h => by simp at h⟩
  | x :: xs, ys, l, h1, h2 => by
    simp only [cOpds] at h1
    split at h1
    case h_2 => simp at h1
    rename_i y ys' hy hys
    simp at h1; subst h1
    simp only [capsA] at h2
    split at h2
    case h_2 => simp at h2
    rename_i p l' hp hl
    simp at h2; subst h2
    have ih := capsA_rel hs hys hl
    refine ⟨by simp [ih.1], fun j q hq => ?_⟩
    cases j with
    | zero =>
      simp at hq; subst hq
      have := cOpd_rel hs hy
      rw [hp] at this
      obtain ⟨ad, h1, h2⟩ := rel_ptr this
      exact ⟨ad, h1, by simp [h2]⟩
    | succ j => exact ih.2 j q (by simpa using hq)

theorem ok_mkFn (hs : SR β σ a) (hr : HR B0 β H w) {f : FuncId} {first captured : Array Operand} {caps : List Opd} (hf : first.isEmpty = true) (hc : cOpds captured.toList = some caps) {l : List (Nat × Nat)} (hl : capsA σ caps = some l) :
    OpOk P ⟨dst, .makeFunc (.func f) first captured, type, pos, after, g⟩ a B0 β H w (.c (.fn f l)) H := by
  obtain ⟨h1, h2⟩ := capsA_rel hs hc hl
  have hf : first = #[] := by simpa using hf
  subst hf
  exact .same hr (x := .func (.func f) #[] (captured.toList.map a.eval).toArray) (by simp only [execOp, Instr.makeFunc, Array.map_empty, Sem.run_bind, Sem.run_pure, Result.andThen_ok]; rw [← Array.toList_map, Array.toArray_toList]) ⟨_, rfl, by simp [h1], h2⟩

theorem ok_builtin {o : Oper} {b : Builtin} {args : Array Operand} {ats : Array TypeId} {x : Value} {w' : World} (ho : o.op = .call ⟨.builtin b, args, ats⟩)
    (h : (builtin b ats o.type (args.map fun | .const _ => true | _ => false) (args.map a.eval)).run P w = .ok (.value x) w') : (execOp a.eval o).run P w = .ok (.value x) w' := by
  obtain ⟨dst, op, type, pos, after, g⟩ := o
  simp only at ho; subst ho
  simp only [execOp, resolve, Sem.run_bind, Sem.run_pure, Result.andThen_ok, invoke]
  exact h

theorem ok_lenS (hs : SR β σ a) (hr : HR B0 β H w) {t e : TypeId} {args : Array Operand} {ats : Array TypeId} {x : Operand} {x' : Opd} (hat : ats[0]? = some t) (ha : args[0]? = some x) (hu : P.underlying t = some (.slice e)) (hx : cOpd x = some x') {p : Option (Nat × Nat)} {l : Nat} {c : Cap} (hv : x'.ev σ = .c (.slice p l c)) :
    OpOk P ⟨dst, .call ⟨.builtin .len, args, ats⟩, type, pos, after, g⟩ a B0 β H w (.c (.int .i64 l)) H := by
  have rx := cOpd_rel hs hx; rw [hv] at rx
  refine .same hr (x := .int .i64 l) (ok_builtin rfl ?_) rfl
  have hx' : (args.map a.eval)[0]? = some (a.eval x) := by simp [ha]
  have : ∃ b cc, a.eval x = .slice b l cc := by
    cases p with
    | none => obtain ⟨rfl, e⟩ := rx; exact ⟨_, _, e⟩
    | some p => obtain ⟨ad, cc, _, _, e, _⟩ := rx; exact ⟨_, _, e⟩
  obtain ⟨b, cc, hxe⟩ := this
  simp [builtin, Builtin.len_, hat, hx', run_underlying hu, hxe, goInt]
theorem ok_lenStr (hs : SR β σ a) (hr : HR B0 β H w) {t : TypeId} {args : Array Operand} {ats : Array TypeId} {x : Operand} {x' : Opd} (hat : ats[0]? = some t) (ha : args[0]? = some x) (hu : P.underlying t = some .string) (hx : cOpd x = some x') {s : ByteArray} (hv : x'.ev σ = .c (.str s)) :
    OpOk P ⟨dst, .call ⟨.builtin .len, args, ats⟩, type, pos, after, g⟩ a B0 β H w (.c (.int .i64 s.size)) H := by
  have rx := cOpd_rel hs hx; rw [hv] at rx
  have e := rel_str rx
  refine .same hr (x := .int .i64 s.size) (ok_builtin rfl ?_) rfl
  have hx' : (args.map a.eval)[0]? = some (a.eval x) := by simp [ha]
  simp [builtin, Builtin.len_, hat, hx', run_underlying hu, e, goInt]
theorem ok_lenA (hs : SR β σ a) (hr : HR B0 β H w) {t e : TypeId} {n : Nat} {args : Array Operand} {ats : Array TypeId} {x : Operand} {x' : Opd} (hat : ats[0]? = some t) (ha : args[0]? = some x) (hu : P.underlying t = some (.array n e)) (_hx : cOpd x = some x') :
    OpOk P ⟨dst, .call ⟨.builtin .len, args, ats⟩, type, pos, after, g⟩ a B0 β H w (.c (.int .i64 n)) H := by
  have _ := hs
  refine .same hr (x := .int .i64 n) (ok_builtin rfl ?_) rfl
  have hx' : (args.map a.eval)[0]? = some (a.eval x) := by simp [ha]
  simp [builtin, Builtin.len_, hat, hx', run_underlying hu, goInt]

/-! ### min, max -/
theorem run_min2 {k : IntKind} : ∀ (r : List AV) (xs : List Value) (n m : Int), Vals β r xs → minL n r k = some m → (xs.foldlM Builtin.min2 (.int k n)).run P w = .ok (.int k m) w
  | [], xs, n, m, hv, h => by
    have := hv.1
    have hx : xs = [] := by simpa using this.symm
    subst hx
    simp [minL] at h; subst h
    simp
  | v :: r, xs, n, m, hv, h => by
    obtain ⟨x, xs', rfl, h1, h2⟩ := hv.cons_inv
    unfold minL at h
    split at h
    · rename_i e; cases e
    · rename_i k' n' r' _ e
      simp only [List.cons.injEq] at e
      obtain ⟨e1, e2⟩ := e
      subst e1; subst e2
      split at h
      · rename_i hk; subst hk
        have hx := rel_int h1
        simp only [List.foldlM_cons, Sem.run_bind, hx, Builtin.min2, Sem.run_pure, Result.andThen_ok]
        exact run_min2 _ xs' _ m h2 h
      · simp at h
    · simp at h
theorem run_max2 {k : IntKind} : ∀ (r : List AV) (xs : List Value) (n m : Int), Vals β r xs → maxL n r k = some m → (xs.foldlM Builtin.max2 (.int k n)).run P w = .ok (.int k m) w
  | [], xs, n, m, hv, h => by
    have := hv.1
    have hx : xs = [] := by simpa using this.symm
    subst hx
    simp [maxL] at h; subst h
    simp
  | v :: r, xs, n, m, hv, h => by
    obtain ⟨x, xs', rfl, h1, h2⟩ := hv.cons_inv
    unfold maxL at h
    split at h
    · rename_i e; cases e
    · rename_i k' n' r' _ e
      simp only [List.cons.injEq] at e
      obtain ⟨e1, e2⟩ := e
      subst e1; subst e2
      split at h
      · rename_i hk; subst hk
        have hx := rel_int h1
        simp only [List.foldlM_cons, Sem.run_bind, hx, Builtin.max2, Sem.run_pure, Result.andThen_ok]
        exact run_max2 _ xs' _ m h2 h
      · simp at h
    · simp at h
theorem ok_min (hs : SR β σ a) (hr : HR B0 β H w) {args : Array Operand} {ats : Array TypeId} {xs : List Opd} (hx : cOpds args.toList = some xs) {k : IntKind} {n m : Int} {r : List AV} (h1 : xs.map (Opd.ev σ) = .c (.int k n) :: r) (h2 : minL n r k = some m) :
    OpOk P ⟨dst, .call ⟨.builtin .min, args, ats⟩, type, pos, after, g⟩ a B0 β H w (.c (.int k m)) H := by
  have hv := cOpds_rel hs hx
  rw [h1] at hv
  obtain ⟨x, xs', e, h3, h4⟩ := hv.cons_inv
  refine .same hr (x := .int k m) (ok_builtin rfl ?_) rfl
  have e' : args.toList.map a.eval = .int k n :: xs' := by rw [e, rel_int h3]
  simp [builtin, Builtin.min_, e', run_min2 r xs' n m h4 h2]
theorem ok_max (hs : SR β σ a) (hr : HR B0 β H w) {args : Array Operand} {ats : Array TypeId} {xs : List Opd} (hx : cOpds args.toList = some xs) {k : IntKind} {n m : Int} {r : List AV} (h1 : xs.map (Opd.ev σ) = .c (.int k n) :: r) (h2 : maxL n r k = some m) :
    OpOk P ⟨dst, .call ⟨.builtin .max, args, ats⟩, type, pos, after, g⟩ a B0 β H w (.c (.int k m)) H := by
  have hv := cOpds_rel hs hx
  rw [h1] at hv
  obtain ⟨x, xs', e, h3, h4⟩ := hv.cons_inv
  refine .same hr (x := .int k m) (ok_builtin rfl ?_) rfl
  have e' : args.toList.map a.eval = .int k n :: xs' := by rw [e, rel_int h3]
  simp [builtin, Builtin.max_, e', run_max2 r xs' n m h4 h2]

/-! ### Bytes to a string -/
theorem bytes_rel : ∀ {cs : List CV} {bs : List UInt8} {xs : List Value}, Cells β cs xs → bytesOfCells cs = some bs → ∃ ns : List Int, xs = ns.map (Value.int .u8) ∧ bs = ns.map fun n => UInt8.ofNat n.toNat
  | [], bs, xs, hc, h => by
    have := hc.nil_inv; subst this
    simp [bytesOfCells] at h; subst h
    exact ⟨[], rfl, rfl⟩
  | c :: cs, bs, xs, hc, h => by
    obtain ⟨x, xs', rfl, h1, h2⟩ := hc.cons_inv
    unfold bytesOfCells at h
    split at h
    · rename_i e; cases e
    · rename_i n rest e
      simp only [List.cons.injEq] at e
      obtain ⟨e1, e2⟩ := e
      subst e1; subst e2
      simp only [Option.map_eq_some_iff] at h
      obtain ⟨bs', h3, rfl⟩ := h
      obtain ⟨ns, rfl, rfl⟩ := bytes_rel h2 h3
      have hx : x = .int .u8 n := h1
      exact ⟨n :: ns, by simp [hx], rfl⟩
    · simp at h
theorem push_all : ∀ (ns : List Int) (s : ByteArray), ns.foldl (fun r n => r.push (UInt8.ofNat n.toNat)) s = ⟨s.data ++ (ns.map fun n => UInt8.ofNat n.toNat).toArray⟩
  | [], s => by simp
  | n :: ns, s => by
    rw [List.foldl_cons, push_all ns]
    congr 1
    simp [ByteArray.push]
theorem ok_convBS (hs : SR β σ a) (hr : HR B0 β H w) {src d e : TypeId} {x : Operand} {x' : Opd} (h1 : P.underlying src = some (.slice e)) (h2 : P.underlying d = some .string) (h3 : P.underlying e = some (.int .u8)) (hx : cOpd x = some x')
    (hv : (∃ l c, x'.ev σ = .c (.slice none l c) ∧ v = .c (.str .empty)) ∨ (∃ p l c, x'.ev σ = .c (.slice (some p) l c) ∧ ((l = 0 ∧ v = .c (.str .empty)) ∨ (l ≠ 0 ∧ ∃ cs bs, readCells H p l = some cs ∧ bytesOfCells cs = some bs ∧ v = .c (.str ⟨bs.toArray⟩))))) :
    OpOk P ⟨dst, .convert src d x, type, pos, after, g⟩ a B0 β H w v H := by
  have rx := cOpd_rel hs hx
  have hcv : ∀ b l c, (convert src d (.slice b l c)).run P w = (Conv.bytesToString (.slice b l c)).run P w := fun b l c => by simp [convert, run_underlying h1, run_underlying h2, run_underlying h3]
  rcases hv with ⟨l, c, hv, rfl⟩ | ⟨p, l, c, hv, hv2⟩
  · rw [hv] at rx
    obtain ⟨_, e⟩ := rx
    refine .same hr (x := .string .empty) ?_ rfl
    simp [execOp, e, hcv, Conv.bytesToString]
  · rw [hv] at rx
    obtain ⟨ad, cc, ha, _, e, _⟩ := rx
    rcases hv2 with ⟨rfl, rfl⟩ | ⟨hl, cs, bs, hc, hb, rfl⟩
    · refine .same hr (x := .string .empty) ?_ rfl
      have := run_bytesToString (P := P) w ad 0 cc [] (by simp [loadCells, loadCellsFrom])
      simp [execOp, e, hcv, this]
    · have had := ha (by cases c <;> simp [needsAddr] <;> omega)
      obtain ⟨xs, hlen, hrun, hcs⟩ := hr.loadCells (P := P) hc had
      obtain ⟨ns, rfl, rfl⟩ := bytes_rel hcs hb
      have := run_bytesToString (P := P) w ad l cc ns hrun
      rw [push_all] at this
      have he : (ByteArray.empty.data ++ (ns.map fun n => UInt8.ofNat n.toNat).toArray) = (ns.map fun n => UInt8.ofNat n.toNat).toArray := by simp
      rw [he] at this
      refine .same hr (x := .string ⟨(ns.map fun n => UInt8.ofNat n.toNat).toArray⟩) ?_ (show _ = _ from rfl)
      simp [execOp, e, hcv, this]

/-! ### Append -/
theorem src_rel (hr : HR B0 β H w) {s n : Nat} {cs : List CV} {y : AV} {z : Value} (hy : y.rel β z) (h : srcCells H s y = some (n, cs)) :
    (∀ k, (Builtin.lenOf z).run P (w.drewN k) = .ok n (w.drewN k)) ∧ ∃ xs : List Value, (∀ k, (Builtin.firstCells s n z).run P (w.drewN k) = .ok xs.toArray (w.drewN k)) ∧ Cells β cs xs := by
  unfold srcCells at h
  split at h
  · simp at h; obtain ⟨rfl, rfl⟩ := h
    obtain ⟨h0, e⟩ := hy
    rw [e]
    exact ⟨fun k => by simp [Builtin.lenOf], [], fun k => by simp [Builtin.firstCells], Cells.nil β⟩
  · rename_i p l c
    obtain ⟨ad, cc, ha, _, e, _⟩ := hy
    rw [e]
    split at h
    · rename_i h0; subst h0
      simp at h; obtain ⟨rfl, rfl⟩ := h
      exact ⟨fun k => by simp [Builtin.lenOf], [], fun k => by simp [Builtin.firstCells, loadCells, loadCellsFrom], Cells.nil β⟩
    · rename_i h0
      simp only [Option.map_eq_some_iff] at h
      obtain ⟨cs', hc, e2⟩ := h
      simp at e2; obtain ⟨rfl, rfl⟩ := e2
      have had := ha (by cases c <;> simp [needsAddr] <;> omega)
      obtain ⟨xs, hlen, hrun, hcs⟩ := hr.loadCellsD (P := P) hc had
      exact ⟨fun k => by simp [Builtin.lenOf], xs, fun k => by simp [Builtin.firstCells, hrun], hcs⟩
  · rename_i b
    have e := rel_str hy
    split at h
    case isFalse => simp at h
    simp at h; obtain ⟨rfl, rfl⟩ := h
    rw [e]
    refine ⟨fun k => by simp [Builtin.lenOf], b.data.toList.map fun u => .int .u8 u.toNat, fun k => ?_, ?_⟩
    · have : b.extract 0 b.size = b := by simp
      simp only [Builtin.firstCells, this, Sem.run_pure]
      congr 1
      rw [← Array.toList_map, Array.toArray_toList]
    · refine ⟨by simp, fun j c hc => ?_⟩
      simp only [List.getElem?_map, Option.map_eq_some_iff] at hc ⊢
      obtain ⟨u, hu, rfl⟩ := hc
      exact ⟨_, ⟨u, hu, rfl⟩, rfl⟩
  · simp at h

/-- An append that fits. -/
theorem run_append_fits {s n : Nat} {t t2 e : TypeId} {i : TypeInfo} {ats : Array TypeId} {ty : TypeId} {base : Option Addr} {len cap : Nat} {z : Value} {xs : List Value} (h0 : ats[0]? = some t) (h1 : ats[1]? = some t2) (hu : P.underlying t = some (.slice e)) (hu2 : P.underlying t2 = some .string ∨ ∃ e2, P.underlying t2 = some (.slice e2)) (hi : P.info? e = some i) (hs : i.size = s)
    (hz1 : (Builtin.lenOf z).run P w = .ok n w) (hz2 : (Builtin.firstCells s n z).run P w = .ok xs.toArray w) (hle : len + n ≤ cap) {w' : World} (hst : (match base with | some ad => (storeCells (ad.add (len * s)) xs).run P w | none => .ok () w) = .ok () w') :
    (Builtin.append_ ats ty #[.slice base len cap, z]).run P w = .ok (.slice base (len + n) cap) w' := by
  have hti : (typeInfo e).run P w = .ok i w := by simp [typeInfo, hi]
  have hsz : (sizeOf e).run P w = .ok s w := by simp [sizeOf, hti, hs]
  rcases hu2 with hu2 | ⟨e2, hu2⟩
  all_goals
    unfold Builtin.append_
    simp only [h0, h1, List.getElem?_toArray, List.getElem?_cons_zero, List.getElem?_cons_succ, Sem.run_bind, run_underlying hu, Result.andThen_ok, hsz, run_underlying hu2, Sem.run_pure]
    simp [hz1, hle, hz2]
    cases base with
    | none => simp at hst; simp [hst]
    | some ad => simp at hst; simp [hst]

/-- An append that makes a new block. -/
theorem run_append_new {s bytes n : Nat} {t t2 e : TypeId} {i : TypeInfo} {ats : Array TypeId} {ty : TypeId} {base : Option Addr} {len cap : Nat} {z : Value} {xs old : List Value} (h0 : ats[0]? = some t) (h1 : ats[1]? = some t2) (hu : P.underlying t = some (.slice e)) (hu2 : P.underlying t2 = some .string ∨ ∃ e2, P.underlying t2 = some (.slice e2)) (hi : P.info? e = some i) (hs : i.size = s) (hb : i.bytes = bytes)
    (hz1 : ∀ k, (Builtin.lenOf z).run P (w.drewN k) = .ok n (w.drewN k)) (hz2 : ∀ k, (Builtin.firstCells s n z).run P (w.drewN k) = .ok xs.toArray (w.drewN k)) (hlt : cap < len + n) (hbb : (len + n) * bytes ≤ 70368744177664) (hn64 : len + n ≤ 70368744177664)
    (hold : ∀ k, (Builtin.firstCells s len (.slice base len cap)).run P (w.drewN k) = .ok old.toArray (w.drewN k)) {zs : Value} (hzs : ∀ w', (zeroValue e).run P w' = .ok zs w') (hzsz : zs.cells.size = s) :
    ∃ nc rest, len + n ≤ nc ∧ rest.length = (nc - (len + n)) * s ∧ (Builtin.append_ ats ty #[.slice base len cap, z]).run P w = .ok (.slice (some ⟨w.heap.size, 0, none⟩) (len + n) nc) ((w.drewN 1).alloc (.cells (old ++ xs ++ rest).toArray e (0, 0))) := by
  have hti : ∀ w', (typeInfo e).run P w' = .ok i w' := fun w' => by simp [typeInfo, hi]
  have hsz : ∀ w', (sizeOf e).run P w' = .ok s w' := fun w' => by simp [sizeOf, hti, hs]
  have hz10 : (Builtin.lenOf z).run P w = .ok n w := hz1 0
  have hz21 := hz2 1
  have hold1 := hold 1
  have hfit := growslice_fits (need := len + n) (old := cap) (bytes := bytes) hlt (by omega)
  have hnle : ¬ (len + n ≤ cap) := by omega
  have h63 : ¬ (9223372036854775807 < ((len : Int) + (n : Int))) := by omega
  have h48 : ¬ (281474976710656 < Builtin.nextslicecap (len + n) cap * bytes) := by omega
  refine ⟨grownCap w (len + n) cap e, (Builtin.zeroCells zs.cells (grownCap w (len + n) cap e - (len + n))).toList, ?_, ?_, ?_⟩
  · unfold grownCap Question.cut; simp
  · simp [Builtin.zeroCells, hzsz]
  · have hw1 : ({ w with drawn := w.drawn + 1 } : World) = w.drewN 1 := rfl
    have hd1 : w.drew = w.drewN 1 := rfl
    rcases hu2 with hu2 | ⟨e2, hu2⟩
    all_goals
      unfold Builtin.append_
      simp only [h0, h1, List.getElem?_toArray, List.getElem?_cons_zero, List.getElem?_cons_succ, Sem.run_bind, run_underlying hu, Result.andThen_ok, hsz, run_underlying hu2, Sem.run_pure]
      simp [hz10, hnle, hti, hb, h63, h48, Question.forced, hd1, hold1, hz21, hzs, newRow, grownCap]
      congr 2
      apply Array.ext'
      simp

/-- The new block of an append: what is told of it, and of its slice. -/
theorem app_new (hr : HR B0 β H w) {e : TypeId} {s len n nc : Nat} {cs : List CV} {xs rest : List Value} (hc : Cells β cs xs) (hl : cs.length = (len + n) * s) (hnc : len + n ≤ nc) (hrest : rest.length = (nc - (len + n)) * s) :
    ∃ β', (AV.c (.slice (some (H.length, 0)) (len + n) (.toEnd s))).rel β' (.slice (some ⟨w.heap.size, 0, none⟩) (len + n) nc) ∧ Go_ B0 β H w β' (H ++ [some ⟨e, cs, .opn⟩]) ((w.drewN 1).alloc (.cells (xs ++ rest).toArray e (0, 0))) := by
  have hg := (hr.drewN 1).alloc e cs (xs ++ rest) .opn (.inr rfl) (by rw [hc.1, List.take_left' rfl]; exact hc) (fun h => by cases h)
  refine ⟨_, ?_, (Go_.drewN hr 1).trans hg⟩
  have hlen : (xs ++ rest).length = nc * s := by
    rw [List.length_append, ← hc.1, hl, hrest, ← Nat.add_mul]
    congr 1; omega
  refine ⟨_, _, fun _ => hr.newAddr _, fun _ => rfl, rfl, hnc, ⟨w.heap.size, 0, (xs ++ rest).length, ?_, by rw [hlen]; simp⟩⟩
  have := hr.len
  show (β ++ [(w.heap.size, 0, (xs ++ rest).length)])[H.length]? = _
  rw [List.getElem?_append_right (by omega), this]; simp

theorem ok_append (hs : SR β σ a) (hr : HR B0 β H w) {t t2 e : TypeId} {args : Array Operand} {ats : Array TypeId} {x y : Operand} {x' y' : Opd} {i : TypeInfo} {z : List CV} (h0 : ats[0]? = some t) (h1 : ats[1]? = some t2) (ha : args.toList = [x, y])
    (hu : P.underlying t = some (.slice e)) (hu2 : P.underlying t2 = some .string ∨ ∃ e2, P.underlying t2 = some (.slice e2)) (hx : cOpd x = some x') (hy : cOpd y = some y') (hz : zeroC P e = some z) (hi : P.info? e = some i) (hzl : z.length = i.size) (hb : 0 < i.bytes) (hsz : 0 < i.size)
    (hv : appendA H e i.size i.bytes (x'.ev σ) (y'.ev σ) = some (v, H')) :
    OpOk P ⟨dst, .call ⟨.builtin .append, args, ats⟩, type, pos, after, g⟩ a B0 β H w v H' := by
  have rx := cOpd_rel hs hx
  have ry := cOpd_rel hs hy
  unfold appendA at hv
  split at hv
  case h_2 => simp at hv
  rename_i _ _ p len c n cs hpe hse
  rw [hpe] at rx
  obtain ⟨hz1, xs, hz2, hcs⟩ := src_rel (P := P) hr ry hse
  have hcl : cs.length = n * i.size := by
    unfold srcCells at hse
    split at hse
    · simp at hse; obtain ⟨rfl, rfl⟩ := hse; simp
    · split at hse
      · simp at hse; obtain ⟨rfl, rfl⟩ := hse; simp
      · simp only [Option.map_eq_some_iff] at hse
        obtain ⟨cs', hc, e2⟩ := hse
        simp at e2; obtain ⟨rfl, rfl⟩ := e2
        exact readCells_len hc
    · split at hse
      · rename_i h1
        simp at hse; obtain ⟨rfl, rfl⟩ := hse
        simp [h1]
      · simp at hse
    · simp at hse
  have hargs : args.map a.eval = #[a.eval x, a.eval y] := by
    have : args = #[x, y] := by rw [← Array.toArray_toList (xs := args), ha]
    rw [this]; simp
  have run_ : ∀ (u : Value) (w' : World), (Builtin.append_ ats type #[a.eval x, a.eval y]).run P w = .ok u w' → (execOp a.eval ⟨dst, .call ⟨.builtin .append, args, ats⟩, type, pos, after, g⟩).run P w = .ok (.value u) w' := by
    intro u w' h
    refine ok_builtin rfl ?_
    simp [builtin, hargs, h]
  obtain ⟨zv, hzv, hzc⟩ := run_zero (P := P) hz w
  have hzv' : ∀ w', (zeroValue e).run P w' = .ok zv w' := by
    intro w'
    unfold zeroC at hz
    rw [hi] at hz
    simp only at hz
    split at hz
    · rename_i v0 hv0
      have e1 : (zeroValue e).run P w = .ok v0 w := by simp [zeroValue, typeInfo, hi, hv0]
      rw [hzv] at e1
      injection e1 with e1
      subst e1
      simp [zeroValue, typeInfo, hi, hv0]
    · simp at hz
  have hzsz : zv.cells.size = i.size := by
    have := (hzc β).1
    simp at this; omega
  -- the slice's value
  have hsl : ∃ base cap, a.eval x = .slice base len cap ∧ len ≤ cap ∧ (p = none → base = none ∧ len = 0 ∧ cap = 0) ∧ (∀ q, p = some q → ∃ ad, base = some ad ∧ (needsAddr len c = true → AddrRel β q ad) ∧ (needsAddr len c = true → ad.spot = none) ∧ CapRel β q cap c) := by
    cases p with
    | none => obtain ⟨rfl, e⟩ := rx; exact ⟨none, 0, e, Nat.le_refl _, fun _ => ⟨rfl, rfl, rfl⟩, fun q h => by cases h⟩
    | some q => obtain ⟨ad, cap, h2, h3, h4, h5, h6⟩ := rx; exact ⟨some ad, cap, h4, h5, (fun h => by cases h), (fun q' h => by cases h; exact ⟨ad, rfl, h2, h3, h6⟩)⟩
  obtain ⟨base, cap, hxe, hlc, hp0, hp1⟩ := hsl
  split at hv
  · -- nothing is appended
    rename_i hn0
    simp at hv; obtain ⟨rfl, rfl⟩ := hv
    subst hn0
    have hxs : xs = [] := by have := hcs.1; rw [hcl] at this; simpa using this.symm
    subst hxs
    rw [hpe]
    refine .same hr (x := .slice base len cap) (run_ _ _ ?_) (by rw [← hxe]; exact rx)
    rw [hxe]
    exact run_append_fits (P := P) (w := w) (len := len) (n := 0) h0 h1 hu hu2 hi rfl (hz1 0) (hz2 0) (by omega) (by cases base <;> simp [storeCells])
  rename_i hn0
  split at hv
  case isFalse => simp at hv
  rename_i hbb2
  obtain ⟨hbb, hok⟩ := hbb2
  have hn64 : len + n ≤ 70368744177664 := Nat.le_trans (Nat.le_mul_of_pos_right _ hb) hbb
  -- a new block
  have mk : ∀ (old : List Value) (ocs : List CV), cap < len + n → Cells β ocs old → ocs.length = len * i.size → (∀ k, (Builtin.firstCells i.size len (.slice base len cap)).run P (w.drewN k) = .ok old.toArray (w.drewN k)) →
      OpOk P ⟨dst, .call ⟨.builtin .append, args, ats⟩, type, pos, after, g⟩ a B0 β H w (.c (.slice (some (H.length, 0)) (len + n) (.toEnd i.size))) (H ++ [some ⟨e, ocs ++ cs, .opn⟩]) := by
    intro old ocs hlt hoc hol hold
    obtain ⟨nc, rest, h3, h4, h5⟩ := run_append_new (P := P) (w := w) (ty := type) h0 h1 hu hu2 hi rfl rfl hz1 hz2 hlt hbb hn64 hold hzv' hzsz
    obtain ⟨β', h6, h7⟩ := app_new (e := e) hr (hoc.append hcs) (by rw [List.length_append, hol, hcl, Nat.add_mul]) h3 h4
    exact .value (run_ _ _ (by rw [hxe]; exact h5)) h6 h7
  split at hv
  · -- onto nil
    obtain ⟨rfl, rfl, rfl⟩ := hp0 rfl
    simp at hv; obtain ⟨rfl, rfl⟩ := hv
    have := mk [] [] (by omega) (Cells.nil β) (by simp) (fun k => by simp [Builtin.firstCells])
    simpa using this
  rename_i q
  obtain ⟨ad, rfl, hra, hsp, hcr⟩ := hp1 q rfl
  split at hv
  · -- the capacity is known
    rename_i k
    have hck : cap = k := hcr
    subst hck
    split at hv
    · rename_i hfit
      simp only [Option.map_eq_some_iff] at hv
      obtain ⟨H1, hw, hv⟩ := hv
      simp at hv; obtain ⟨rfl, rfl⟩ := hv
      have had := hra (by simp [needsAddr]; omega)
      obtain ⟨w', h3, h4⟩ := hr.store (P := P) hw (had.add (len * i.size)) hcs
      refine .value (x := .slice (some ad) (len + n) cap) (run_ _ _ ?_) ?_ h4
      · rw [hxe]
        exact run_append_fits (P := P) (w := w) h0 h1 hu hu2 hi rfl (hz1 0) (hz2 0) hfit h3
      · exact ⟨ad, cap, fun _ => had, fun _ => had.spot, rfl, hfit, rfl⟩
    · rename_i hnf
      split at hv
      · rename_i hl0
        subst hl0
        simp at hv; obtain ⟨rfl, rfl⟩ := hv
        have := mk [] [] (by omega) (Cells.nil β) (by simp) (fun k => by simp [Builtin.firstCells, loadCells, loadCellsFrom])
        simpa using this
      · rename_i hl0
        split at hv
        case h_2 => simp at hv
        rename_i old hold
        simp at hv; obtain ⟨rfl, rfl⟩ := hv
        have had := hra (by simp [needsAddr]; omega)
        obtain ⟨os, h3, h4, h5⟩ := hr.loadCellsD (P := P) hold had
        exact mk os old (by omega) h5 (readCells_len hold) (fun k => by simp [Builtin.firstCells, h4])
  · -- to its block's end
    rename_i sz
    split at hv
    case h_2 => simp at hv
    rename_i blk hblk
    have hblki := get_some hblk
    have hm : (blk.m = .own ∨ blk.m = .opn) ∧ (sz = i.size ∧ 0 < len ∧ q.2 = 0 ∧ blk.cells.length = len * i.size ∧ blk.e = e) ∧ v = .c (.slice (some (H.length, 0)) (len + n) (.toEnd i.size)) ∧ H' = H.set q.1 none ++ [some ⟨e, blk.cells ++ cs, .opn⟩] := by
      split at hv
      · simp at hv
      · rename_i hro
        split at hv
        · rename_i hc
          simp at hv
          refine ⟨?_, hc, hv.1.symm, hv.2.symm⟩
          cases hbm : blk.m with
          | ro => exact absurd hbm hro
          | own => exact .inl rfl
          | opn => exact .inr rfl
        · simp at hv
    obtain ⟨hm, ⟨rfl, hlen0, hq2, hbl, rfl⟩, rfl, rfl⟩ := hm
    obtain ⟨b, o, kk, hβ, hcap⟩ := hcr
    have had := hra rfl
    rcases hr.blk q.1 blk hblki with ⟨hm', _⟩ | ⟨_, ⟨b', ys, hb', hB, hh, hys, hown⟩⟩
    · rw [hm'] at hm; simp at hm
    rw [hβ] at hb'; injection hb' with hb'; injection hb' with e1 hb'; injection hb' with e2 e3
    subst e1; subst e2; subst e3
    obtain ⟨b1, o1, k1, h3, rfl⟩ := had
    rw [hβ] at h3; injection h3 with h3; injection h3 with e1 h3; injection h3 with e2 e3
    subst e1; subst e2
    rw [hq2] at hcap
    simp only [Nat.zero_add] at hcap
    have hqH : q.1 < H.length := (List.getElem?_eq_some_iff.1 hblki).1
    by_cases hfit : len + n ≤ cap
    · -- in place
      have hle2 : len * i.size + xs.length ≤ ys.length := by
        rw [← hcs.1, hcl, ← hcap, ← Nat.add_mul]
        exact Nat.mul_le_mul_right _ hfit
      have hst := run_storeCells (P := P) (b := b) (off := len * i.size) xs 0 ys w hh (by omega) (fun u hu => by
        obtain ⟨j, hj⟩ := List.getElem?_of_mem hu
        have hj' : j < cs.length := by rw [hcs.1]; exact (List.getElem?_eq_some_iff.1 hj).1
        obtain ⟨y1, h1, h2⟩ := hcs.2 j cs[j] (List.getElem?_eq_getElem hj')
        rw [hj] at h1; injection h1 with h1; subst h1
        exact CV.ok_store (List.all_eq_true.1 hok _ (List.getElem_mem hj')) h2)
      simp only [Nat.add_zero] at hst
      have hys0 := hys
      rw [hbl] at hys0
      have hgrow := hr.grow hblki hm hβ hB hh (cs := blk.cells ++ cs) (ys' := setL ys (len * i.size) xs) (setL_len hle2) (by
        rw [List.length_append, hbl, hcs.1]
        have : (setL ys (len * i.size) xs).take (len * i.size + xs.length) = ys.take (len * i.size) ++ xs := by
          unfold setL
          rw [List.append_assoc, List.take_append, List.length_take, Nat.min_eq_left (by omega)]
          rw [List.take_of_length_le (by simp; omega)]
          congr 1
          rw [show len * i.size + xs.length - len * i.size = xs.length by omega]
          simp
        rw [this]
        exact hys0.append hcs)
      refine .value (x := .slice (some ⟨b, 0 + q.2, none⟩) (len + n) cap) (run_ _ _ ?_) ?_ hgrow
      · rw [hxe]
        refine run_append_fits (P := P) (w := w) h0 h1 hu hu2 hi rfl (hz1 0) (hz2 0) hfit ?_
        rw [hq2]
        simp only [Nat.add_zero]
        rw [add_plain, Nat.zero_add]
        exact hst
      · have hl : (β ++ [(b, 0, ys.length)])[H.length]? = some (b, 0, ys.length) := by
          rw [List.getElem?_append_right (by rw [hr.len]; exact Nat.le_refl _), hr.len]; simp
        exact ⟨_, cap, fun _ => ⟨b, 0, ys.length, hl, by rw [hq2]⟩, fun _ => rfl, rfl, hfit, ⟨b, 0, ys.length, hl, by simpa using hcap⟩⟩
    · -- a new block
      have hkill := hr.kill q.1
      have hold : ∀ k, (Builtin.firstCells i.size len (.slice (some ⟨b, 0 + q.2, none⟩) len cap)).run P (w.drewN k) = .ok (ys.take (len * i.size)).toArray (w.drewN k) := by
        intro k
        simp only [Builtin.firstCells, loadCells]
        have hlen' : (ys.take (len * i.size)).length = len * i.size := by
          rw [List.length_take, Nat.min_eq_left]
          rw [← hcap]; exact Nat.mul_le_mul_right _ hlc
        have := run_loadCellsFrom (P := P) (w := w.drewN k) (a := ⟨b, 0 + q.2, none⟩) (ys.take (len * i.size)) 0 #[] (fun j u hj => by
          rw [Nat.zero_add, add_plain, hq2]
          simp only [World.cell?_drewN, World.cell?, World.heap_drewN, hh]
          have hjl : j < len * i.size := by
            have := (List.getElem?_eq_some_iff.1 hj).1; omega
          rw [List.getElem?_take_of_lt hjl] at hj
          simp [hj])
        rw [hlen'] at this
        simpa using this
      obtain ⟨nc, rest, h3, h4, h5⟩ := run_append_new (P := P) (w := w) (ty := type) h0 h1 hu hu2 hi rfl rfl hz1 hz2 (by omega) hbb hn64 hold hzv' hzsz
      have hys0 := hys
      rw [hbl] at hys0
      obtain ⟨β', h6, h7⟩ := app_new (e := blk.e) hkill.hr (hys0.append hcs) (by rw [List.length_append, hbl, hcl, Nat.add_mul]) h3 h4
      have hHl : (H.set q.1 none).length = H.length := by simp
      rw [hHl] at h6
      exact .value (run_ _ _ (by rw [hxe]; exact h5)) h6 (hkill.trans h7)
  · simp at hv

end
end Go.Proofs.YtmockobmiagbcaaDoor.VI

set_option linter.unusedVariables false
set_option linter.unusedSimpArgs false
set_option linter.unusedSectionVars false
namespace Go.Proofs.YtmockobmiagbcaaDoor.VI
open Go Go.RowKit

/-- What a call of the abstract machine says of the machine. -/
def CallOk (P : Program) (call : CallA) : Prop :=
  ∀ (f : FuncId) (args : List AV) (H : AHeap) (r : AV) (H' : AHeap), call f args H = some (r, H') → ∀ (B0 : Nat) (β : Beta) (w : World) (xs : List Value), HR B0 β H w → Vals β args xs →
    ∃ fn, P.funcs[f]? = some fn ∧ (fn.name == "runtime.NumGoroutine") = false ∧ fn.body.isNone = false ∧
      Calls P f xs.toArray w (fun e w' => ∃ β' x, e = .returned x ∧ r.rel β' x ∧ Go_ B0 β H w β' H' w')

theorem wp_of_ok {P : Program} {o : Oper} {a : Act} {B0 : Nat} {β : Beta} {H : AHeap} {w : World} {v : AV} {H' : AHeap} {K : Act → World → Prop} {Q : Exit → Act → World → Prop} (h : OpOk P o a B0 β H w v H')
    (hK : ∀ β' x w', v.rel β' x → Go_ B0 β H w β' H' w' → K (a.put o.dst x) w') : o.wp P a w K Q := by
  obtain ⟨β', x, w', h1, h2, h3⟩ := h
  unfold Oper.wp
  rcases h1 with h1 | ⟨h1, rfl⟩
  · rw [h1]; exact hK β' x w' h2 h3
  · rw [h1]; exact hK β' Go.undef w' h2 h3

section
variable {P : Program} {call : CallA} {B0 : Nat} {β : Beta} {H H' : AHeap} {σ : Sl} {a : Act} {w : World} {v : AV}

theorem res_call (hc : CallOk P call) (hs : SR β σ a) (hr : HR B0 β H w) {o : Oper} {f : Operand} {args : Array Operand} {ats : Array TypeId} (ho : o.op = .call ⟨.value f, args, ats⟩) {f' : Opd} {xs : List Opd} (hf : cOpd f = some f') (hx : cOpds args.toList = some xs)
    {g : FuncId} {caps : List (Nat × Nat)} (hg : f'.ev σ = .c (.fn g caps)) (he : call g (xs.map (Opd.ev σ) ++ caps.map fun p => .c (.ptr (some p))) H = some (v, H')) :
    ∃ f args, (execOp a.eval o).run P w = .ok (.enter f args) w ∧ Calls P f args w (fun e w' => ∃ β' x, e = .returned x ∧ v.rel β' x ∧ Go_ B0 β H w β' H' w') := by
  have rf := cOpd_rel hs hf
  rw [hg] at rf
  obtain ⟨cs, e1, e2, e3⟩ := rf
  have hv := cOpds_rel hs hx
  have hcv : Vals β (caps.map fun p => AV.c (.ptr (some p))) cs := by
    refine ⟨by simp [e2], fun j v hj => ?_⟩
    simp only [List.getElem?_map, Option.map_eq_some_iff] at hj
    obtain ⟨p, hp, rfl⟩ := hj
    obtain ⟨ad, h1, h2⟩ := e3 j p hp
    exact ⟨_, h2, ad, h1, rfl⟩
  obtain ⟨fn, h1, h2, h3, h4⟩ := hc _ _ _ _ _ he B0 β w _ hr (hv.append hcv)
  have hrun : (execOp a.eval o).run P w = .ok (.enter g (args.toList.map a.eval ++ cs).toArray) w := by
    obtain ⟨dst, op, type, pos, after, gd⟩ := o
    simp only at ho; subst ho
    have ha : args.map a.eval = (args.toList.map a.eval).toArray := by rw [← Array.toList_map, Array.toArray_toList]
    simp only [execOp, resolve, e1, Deferred.ofValue, Sem.run_bind, Sem.run_pure, Result.andThen_ok, invoke, callFunc, run_program, h1, h2, h3, Bool.false_eq_true, if_false, ha]
    simp
  exact ⟨_, _, hrun, h4⟩

/-- What an operation does: it yields, or it calls. -/
def OpRes (P : Program) (o : Oper) (a : Act) (B0 : Nat) (β : Beta) (H : AHeap) (w : World) (v : AV) (H' : AHeap) : Prop :=
  OpOk P o a B0 β H w v H' ∨ ∃ f args, (execOp a.eval o).run P w = .ok (.enter f args) w ∧ Calls P f args w (fun e w' => ∃ β' x, e = .returned x ∧ v.rel β' x ∧ Go_ B0 β H w β' H' w')

theorem OpRes.wp {P : Program} {o : Oper} {a : Act} {B0 : Nat} {β : Beta} {H : AHeap} {w : World} {v : AV} {H' : AHeap} {K : Act → World → Prop} {Q : Exit → Act → World → Prop} (h : OpRes P o a B0 β H w v H')
    (hK : ∀ β' x w', v.rel β' x → Go_ B0 β H w β' H' w' → K (a.put o.dst x) w') : o.wp P a w K Q := by
  rcases h with h | ⟨f, args, h1, h2⟩
  · exact wp_of_ok h hK
  · unfold Oper.wp
    rw [h1]
    simp only [Oper.upon]
    refine h2.mono ?_
    rintro e w' ⟨β', x, rfl, h5, h6⟩
    exact hK β' x w' h5 h6

theorem op_res (hc : CallOk P call) (hs : SR β σ a) (hr : HR B0 β H w) {o : Oper} {k : KOp} (h : cOp P o.op = some k) (he : evalOp call σ H k = some (v, H')) : OpRes P o a B0 β H w v H' := by
  obtain ⟨dst, op, type, pos, after, gd⟩ := o
  simp only at h
  cases op
  case move x =>
    simp only [cOp, Option.map_eq_some_iff] at h
    obtain ⟨y, hy, rfl⟩ := h
    simp only [evalOp, Option.some.injEq, Prod.mk.injEq] at he; obtain ⟨rfl, rfl⟩ := he
    exact .inl (ok_move hs hr hy)
  case assign x =>
    simp only [cOp, Option.map_eq_some_iff] at h
    obtain ⟨y, hy, rfl⟩ := h
    simp only [evalOp, Option.some.injEq, Prod.mk.injEq] at he; obtain ⟨rfl, rfl⟩ := he
    exact .inl (ok_assign hs hr hy)
  case pick c x y =>
    simp only [cOp] at h
    split at h
    case h_2 => simp at h
    rename_i c' x' y' h1 h2 h3
    simp at h; subst h
    simp only [evalOp] at he
    split at he
    case h_2 => simp at he
    rename_i t ht
    simp only [Option.some.injEq, Prod.mk.injEq] at he; obtain ⟨rfl, rfl⟩ := he
    exact .inl (ok_pick hs hr h1 h2 h3 ht)
  case alloc e =>
    simp only [cOp, Option.map_eq_some_iff] at h
    obtain ⟨z, hz, rfl⟩ := h
    simp only [evalOp, Option.some.injEq, Prod.mk.injEq] at he; obtain ⟨rfl, rfl⟩ := he
    exact .inl (ok_alloc hr hz)
  case box e x =>
    simp only [cOp, Option.map_eq_some_iff] at h
    obtain ⟨y, hy, rfl⟩ := h
    simp only [evalOp] at he
    split at he
    case h_2 => simp at he
    rename_i cs hcs
    simp only [Option.some.injEq, Prod.mk.injEq] at he; obtain ⟨rfl, rfl⟩ := he
    exact .inl (ok_box hs hr hy hcs)
  case build t parts =>
    simp only [cOp] at h
    split at h
    · rename_i z fs hz hu
      split at h
      case h_2 => simp at h
      rename_i pl hpl
      simp only [Option.map_eq_some_iff] at h
      obtain ⟨qs, hq, rfl⟩ := h
      simp only [evalOp] at he
      split at he
      case h_2 => simp at he
      rename_i l hl
      simp only [Option.map_eq_some_iff] at he
      obtain ⟨cs, hcs, he⟩ := he
      simp only [Prod.mk.injEq] at he; obtain ⟨rfl, rfl⟩ := he
      exact .inl (ok_build hs hr hz hq (.inl ⟨fs, pl, hu, hpl, rfl⟩) hl hcs)
    · rename_i z n e hz hu
      split at h
      case h_2 => simp at h
      rename_i s hss
      simp only [Option.map_eq_some_iff] at h
      obtain ⟨qs, hq, rfl⟩ := h
      simp only [evalOp] at he
      split at he
      case h_2 => simp at he
      rename_i l hl
      simp only [Option.map_eq_some_iff] at he
      obtain ⟨cs, hcs, he⟩ := he
      simp only [Prod.mk.injEq] at he; obtain ⟨rfl, rfl⟩ := he
      exact .inl (ok_build hs hr hz hq (.inr ⟨n, e, s, hu, hss, rfl⟩) hl hcs)
    · simp at h
  case buildSlice t len parts =>
    simp only [cOp] at h
    split at h
    case h_2 => simp at h
    rename_i e hu
    split at h
    case h_2 => simp at h
    rename_i z s hz hss
    split at h
    case isFalse => simp at h
    rename_i hcond
    simp only [Option.map_eq_some_iff] at h
    obtain ⟨qs, hq, rfl⟩ := h
    simp only [evalOp] at he
    split at he
    case h_2 => simp at he
    rename_i l hl
    simp only [Option.map_eq_some_iff] at he
    obtain ⟨cs, hcs, he⟩ := he
    simp only [Prod.mk.injEq] at he; obtain ⟨rfl, rfl⟩ := he
    exact .inl (ok_buildSl hs hr hu hz hss hcond.1 hcond.2 hq hl hcs)
  case load t x =>
    simp only [cOp] at h
    split at h
    · rename_i n y h1 h2 h3
      simp at h; subst h
      simp only [evalOp] at he
      split at he
      case h_2 => simp at he
      rename_i p hp
      simp only [Option.map_eq_some_iff] at he
      obtain ⟨cs, hcs, he⟩ := he
      simp only [Prod.mk.injEq] at he; obtain ⟨rfl, rfl⟩ := he
      exact .inl (ok_loadN hs hr h1 h2 h3 hp hcs)
    · rename_i y h1 h3
      simp at h; subst h
      simp only [evalOp] at he
      split at he
      case h_2 => simp at he
      rename_i p hp
      simp only [Option.map_eq_some_iff] at he
      obtain ⟨c, hcs, he⟩ := he
      simp only [Prod.mk.injEq] at he; obtain ⟨rfl, rfl⟩ := he
      exact .inl (ok_load1 hs hr h1 h3 hp hcs)
    · simp at h
  case store t x y =>
    simp only [cOp] at h
    split at h
    case h_2 => simp at h
    rename_i n x' y' h1 h2 h3
    simp at h; subst h
    simp only [evalOp] at he
    split at he
    case h_2 => simp at he
    rename_i p hp
    split at he
    case h_2 => simp at he
    rename_i cs hcs
    split at he
    case isFalse => simp at he
    rename_i hl
    simp only [Option.map_eq_some_iff] at he
    obtain ⟨H1, hw, he⟩ := he
    simp only [Prod.mk.injEq] at he; obtain ⟨rfl, rfl⟩ := he
    exact .inl (ok_store hs hr h1 h2 h3 hp hcs hl hw)
  case nilCheck x =>
    simp only [cOp, Option.map_eq_some_iff] at h
    obtain ⟨y, hy, rfl⟩ := h
    simp only [evalOp] at he
    split at he
    · rename_i p hp
      simp only [Option.some.injEq, Prod.mk.injEq] at he; obtain ⟨rfl, rfl⟩ := he
      exact .inl (ok_nilchk_ptr hs hr hy hp)
    · rename_i f cs hp
      simp only [Option.some.injEq, Prod.mk.injEq] at he; obtain ⟨rfl, rfl⟩ := he
      exact .inl (ok_nilchk_fn hs hr hy hp)
    · simp at he
  case binOp op t x y yt =>
    simp only [cOp] at h
    split at h
    case h_2 => simp at h
    rename_i x' y' h1 h2
    simp at h; subst h
    simp only [evalOp, Option.map_eq_some_iff] at he
    obtain ⟨u, hu, he⟩ := he
    simp only [Prod.mk.injEq] at he; obtain ⟨rfl, rfl⟩ := he
    exact .inl (ok_bin hs hr h1 h2 hu)
  case unOp op t x =>
    simp only [cOp, Option.map_eq_some_iff] at h
    obtain ⟨y, hy, rfl⟩ := h
    simp only [evalOp, Option.map_eq_some_iff] at he
    obtain ⟨u, hu, he⟩ := he
    simp only [Prod.mk.injEq] at he; obtain ⟨rfl, rfl⟩ := he
    exact .inl (ok_un hs hr hy hu)
  case convert src d x =>
    simp only [cOp] at h
    split at h
    · rename_i k0 k x' h1 h2 h3
      simp at h; subst h
      simp only [evalOp] at he
      split at he
      case h_2 => simp at he
      rename_i k1 n hn
      simp only [Option.some.injEq, Prod.mk.injEq] at he; obtain ⟨rfl, rfl⟩ := he
      exact .inl (ok_conv hs hr h1 h2 h3 hn)
    · rename_i e x' h1 h2 h3
      split at h
      case h_2 => simp at h
      rename_i h4
      simp at h; subst h
      simp only [evalOp] at he
      split at he
      · rename_i l c hp
        simp only [Option.some.injEq, Prod.mk.injEq] at he; obtain ⟨rfl, rfl⟩ := he
        exact .inl (ok_convBS hs hr h1 h2 h4 h3 (.inl ⟨l, c, hp, rfl⟩))
      · rename_i p l c hp
        split at he
        · rename_i hl
          simp only [Option.some.injEq, Prod.mk.injEq] at he; obtain ⟨rfl, rfl⟩ := he
          exact .inl (ok_convBS hs hr h1 h2 h4 h3 (.inr ⟨p, l, c, hp, .inl ⟨hl, rfl⟩⟩))
        · rename_i hl
          split at he
          case h_2 => simp at he
          rename_i cs hcs
          simp only [Option.map_eq_some_iff] at he
          obtain ⟨bs, hbs, he⟩ := he
          simp only [Prod.mk.injEq] at he; obtain ⟨rfl, rfl⟩ := he
          exact .inl (ok_convBS hs hr h1 h2 h4 h3 (.inr ⟨p, l, c, hp, .inr ⟨hl, cs, bs, hcs, hbs, rfl⟩⟩))
      · simp at he
    · simp at h
  case index t x i =>
    simp only [cOp] at h
    split at h
    · rename_i n e x' i' h1 h2 h3
      split at h
      · rename_i s h4 h5
        simp at h; subst h
        simp only [evalOp] at he
        split at he
        case h_2 => simp at he
        rename_i cs k m hp hm
        split at he
        case isFalse => simp at he
        rename_i hb
        simp only [Option.some.injEq, Prod.mk.injEq] at he; obtain ⟨rfl, rfl⟩ := he
        exact .inl (ok_idxN hs hr h1 h4 h5 h2 h3 hp hm ⟨hb.1, hb.2.1⟩)
      · rename_i h4 h5
        simp at h; subst h
        simp only [evalOp] at he
        split at he
        case h_2 => simp at he
        rename_i cs k m hp hm
        split at he
        case isFalse => simp at he
        rename_i hb
        simp only [Option.map_eq_some_iff] at he
        obtain ⟨c, hcs, he⟩ := he
        simp only [Prod.mk.injEq] at he; obtain ⟨rfl, rfl⟩ := he
        exact .inl (ok_idx1 hs hr h1 h4 h5 h2 h3 hp hm hb hcs)
      · simp at h
    · rename_i x' i' h1 h2 h3
      simp at h; subst h
      simp only [evalOp] at he
      split at he
      case h_2 => simp at he
      rename_i s k m hp hm
      split at he
      case isFalse => simp at he
      rename_i hb
      simp only [Option.map_eq_some_iff] at he
      obtain ⟨c, hcs, he⟩ := he
      simp only [Prod.mk.injEq] at he; obtain ⟨rfl, rfl⟩ := he
      exact .inl (ok_idxStr hs hr h1 h2 h3 hp hm hb hcs)
    · simp at h
  case indexAddr t x i =>
    simp only [cOp] at h
    split at h
    · rename_i n e x' i' h1 h2 h3
      simp only [Option.map_eq_some_iff] at h
      obtain ⟨s, hss, rfl⟩ := h
      simp only [evalOp] at he
      split at he
      case h_2 => simp at he
      rename_i p k m hp hm
      split at he
      case isFalse => simp at he
      rename_i hb
      simp only [Option.some.injEq, Prod.mk.injEq] at he; obtain ⟨rfl, rfl⟩ := he
      exact .inl (ok_idxA hs hr h1 hss h2 h3 hp hm hb)
    · rename_i e x' i' h1 h2 h3
      simp only [Option.map_eq_some_iff] at h
      obtain ⟨s, hss, rfl⟩ := h
      simp only [evalOp] at he
      split at he
      case h_2 => simp at he
      rename_i p l c k m hp hm
      split at he
      case isFalse => simp at he
      rename_i hb
      simp only [Option.some.injEq, Prod.mk.injEq] at he; obtain ⟨rfl, rfl⟩ := he
      exact .inl (ok_idxS hs hr h1 hss h2 h3 hp hm hb)
    · simp at h
  case fieldAddr t x f =>
    simp only [cOp] at h
    split at h
    case h_2 => simp at h
    rename_i fs x' h1 h2
    split at h
    case h_2 => simp at h
    rename_i fd h3
    split at h
    case h_2 => simp at h
    rename_i n h4
    simp at h; subst h
    simp only [evalOp] at he
    split at he
    case h_2 => simp at he
    rename_i p hp
    simp only [Option.some.injEq, Prod.mk.injEq] at he; obtain ⟨rfl, rfl⟩ := he
    exact .inl (ok_fldA hs hr h1 h3 h4 h2 hp)
  case field t x f =>
    simp only [cOp] at h
    split at h
    case h_2 => simp at h
    rename_i fs x' h1 h2
    split at h
    case h_2 => simp at h
    rename_i fd h3
    split at h
    · rename_i n h4 h5
      simp at h; subst h
      simp only [evalOp] at he
      split at he
      case h_2 => simp at he
      rename_i cs hp
      split at he
      case isFalse => simp at he
      simp only [Option.some.injEq, Prod.mk.injEq] at he; obtain ⟨rfl, rfl⟩ := he
      exact .inl (ok_fldN hs hr h1 h3 h4 h5 h2 hp)
    · rename_i n h4 h5
      simp at h; subst h
      simp only [evalOp] at he
      split at he
      case h_2 => simp at he
      rename_i cs hp
      simp only [Option.map_eq_some_iff] at he
      obtain ⟨c, hcs, he⟩ := he
      simp only [Prod.mk.injEq] at he; obtain ⟨rfl, rfl⟩ := he
      exact .inl (ok_fld1 hs hr h1 h3 h4 h2 hp hcs)
    · simp at h
  case slice t x lo hi mx =>
    simp only [cOp] at h
    split at h
    · rename_i e x' lo' hi' mx' h1 h2 h3 h4 h5
      simp only [Option.map_eq_some_iff] at h
      obtain ⟨s, hss, rfl⟩ := h
      simp only [evalOp] at he
      split at he
      case h_2 => simp at he
      rename_i l h m hl hh hm
      simp only [Option.map_eq_some_iff] at he
      obtain ⟨u, hu, he⟩ := he
      simp only [Prod.mk.injEq] at he; obtain ⟨rfl, rfl⟩ := he
      exact .inl (ok_sliceS hs hr h1 hss h2 h3 h4 h5 hl hh hm hu)
    · rename_i x' lo' hi' h1 h2 h3 h4 h5
      simp at h; subst h
      have hmx : mx = none := by cases mx <;> simp [cOpt] at h5 ⊢
      subst hmx
      simp only [evalOp] at he
      split at he
      case h_2 => simp at he
      rename_i l h hl hh
      simp only [Option.map_eq_some_iff] at he
      obtain ⟨u, hu, he⟩ := he
      simp only [Prod.mk.injEq] at he; obtain ⟨rfl, rfl⟩ := he
      exact .inl (ok_sliceStr hs hr h1 h2 h3 h4 hl hh hu)
    · simp at h
  case makeSlice t l c =>
    simp only [cOp] at h
    split at h
    case h_2 => simp at h
    rename_i e l' c' h1 h2 h3
    split at h
    case h_2 => simp at h
    rename_i z i h4 h5
    split at h
    case isFalse => simp at h
    rename_i hcond
    simp at h; subst h
    simp only [evalOp] at he
    split at he
    case h_2 => simp at he
    rename_i k1 n k2 m hn hm
    split at he
    case isFalse => simp at he
    rename_i hb
    simp only [Option.some.injEq, Prod.mk.injEq] at he; obtain ⟨rfl, rfl⟩ := he
    exact .inl (ok_mkSl hs hr h1 h2 h3 h4 h5 hcond.1 hcond.2 hn hm hb)
  case makeFunc fn first captured =>
    cases fn <;> simp only [cOp] at h
    case func f =>
      split at h
      case isFalse => simp at h
      rename_i hf
      simp only [Option.map_eq_some_iff] at h
      obtain ⟨caps, hcaps, rfl⟩ := h
      simp only [evalOp, Option.map_eq_some_iff] at he
      obtain ⟨l, hl, he⟩ := he
      simp only [Prod.mk.injEq] at he; obtain ⟨rfl, rfl⟩ := he
      exact .inl (ok_mkFn hs hr hf hcaps hl)
    all_goals simp at h
  case extract t ix =>
    simp only [cOp, Option.map_eq_some_iff] at h
    obtain ⟨y, hy, rfl⟩ := h
    simp only [evalOp] at he
    split at he
    case h_2 => simp at he
    rename_i vs hp
    simp only [Option.map_eq_some_iff] at he
    obtain ⟨u, hu, he⟩ := he
    simp only [Prod.mk.injEq] at he; obtain ⟨rfl, rfl⟩ := he
    exact .inl (ok_ext hs hr hy hp hu)
  case call c =>
    obtain ⟨callee, args, ats⟩ := c
    cases callee
    case value f =>
      simp only [cOp] at h
      split at h
      case h_2 => simp at h
      rename_i f' xs h1 h2
      simp at h; subst h
      simp only [evalOp] at he
      split at he
      case h_2 => simp at he
      rename_i g caps hg
      exact .inr (res_call hc hs hr rfl h1 h2 hg he)
    case invoke r m => simp [cOp] at h
    case builtin b =>
      cases b <;> (try (simp [cOp] at h; done))
      case len =>
        simp only [cOp] at h
        split at h
        case h_2 => simp at h
        rename_i t x h1 h2
        split at h
        · rename_i x' h3 h4
          simp at h; subst h
          simp only [evalOp] at he
          split at he
          · rename_i e _; cases e
          · rename_i s _ hp
            simp only [Option.some.injEq, Prod.mk.injEq] at he; obtain ⟨rfl, rfl⟩ := he
            exact .inl (ok_lenStr hs hr h1 h2 h3 h4 hp)
          · simp at he
        · rename_i e x' h3 h4
          simp at h; subst h
          simp only [evalOp] at he
          split at he
          · rename_i p l c _ hp
            simp only [Option.some.injEq, Prod.mk.injEq] at he; obtain ⟨rfl, rfl⟩ := he
            exact .inl (ok_lenS hs hr h1 h2 h3 h4 hp)
          · rename_i e _; cases e
          · simp at he
        · rename_i n e x' h3 h4
          simp at h; subst h
          simp only [evalOp, Option.some.injEq, Prod.mk.injEq] at he; obtain ⟨rfl, rfl⟩ := he
          exact .inl (ok_lenA hs hr h1 h2 h3 h4)
        · simp at h
      case append =>
        simp only [cOp] at h
        split at h
        case h_2 => simp at h
        rename_i t t2 x y h1 h2 h3
        split at h
        · rename_i e e2 x' y' h4 h5 h6 h7
          split at h
          case h_2 => simp at h
          rename_i z i h8 h9
          split at h
          case isFalse => simp at h
          rename_i hcond
          simp at h; subst h
          simp only [evalOp] at he
          exact .inl (ok_append hs hr h1 h2 h3 h4 (.inr ⟨_, h5⟩) h6 h7 h8 h9 hcond.1 hcond.2.1 hcond.2.2 he)
        · rename_i e x' y' h4 h5 h6 h7
          split at h
          case h_2 => simp at h
          rename_i z i h8 h9
          split at h
          case isFalse => simp at h
          rename_i hcond
          simp at h; subst h
          simp only [evalOp] at he
          exact .inl (ok_append hs hr h1 h2 h3 h4 (.inl h5) h6 h7 h8 h9 hcond.1 hcond.2.1 hcond.2.2 he)
        · simp at h
      case min =>
        simp only [cOp, Option.map_eq_some_iff] at h
        obtain ⟨xs, hxs, rfl⟩ := h
        simp only [evalOp] at he
        split at he
        case h_2 => simp at he
        rename_i k n r hr1
        simp only [Option.map_eq_some_iff] at he
        obtain ⟨m, hm, he⟩ := he
        simp only [Prod.mk.injEq] at he; obtain ⟨rfl, rfl⟩ := he
        exact .inl (ok_min hs hr hxs hr1 hm)
      case max =>
        simp only [cOp, Option.map_eq_some_iff] at h
        obtain ⟨xs, hxs, rfl⟩ := h
        simp only [evalOp] at he
        split at he
        case h_2 => simp at he
        rename_i k n r hr1
        simp only [Option.map_eq_some_iff] at he
        obtain ⟨m, hm, he⟩ := he
        simp only [Prod.mk.injEq] at he; obtain ⟨rfl, rfl⟩ := he
        exact .inl (ok_max hs hr hxs hr1 hm)
  all_goals (simp [cOp] at h; done)
theorem op_sound (hc : CallOk P call) (hs : SR β σ a) (hr : HR B0 β H w) {o : Oper} {k : KOp} (h : cOp P o.op = some k) (he : evalOp call σ H k = some (v, H')) {K : Act → World → Prop} {Q : Exit → Act → World → Prop}
    (hK : ∀ β' x w', v.rel β' x → Go_ B0 β H w β' H' w' → K (a.put o.dst x) w') : o.wp P a w K Q := (op_res hc hs hr h he).wp hK
end

end Go.Proofs.YtmockobmiagbcaaDoor.VI

set_option linter.unusedVariables false
set_option linter.unusedSimpArgs false
set_option linter.unusedSectionVars false
namespace Go.Proofs.YtmockobmiagbcaaDoor.VI
open Go

/-! ### More rounds, more calls: the same answers -/
def LeC (c1 c2 : CallA) : Prop := ∀ f a H r, c1 f a H = some r → c2 f a H = some r
theorem LeC.refl (c : CallA) : LeC c c := fun _ _ _ _ h => h
theorem LeC.trans {a b c : CallA} (h : LeC a b) (k : LeC b c) : LeC a c := fun f x H r e => k f x H r (h f x H r e)

section
variable {c1 c2 : CallA} (hle : LeC c1 c2)
include hle
theorem evalOp_mono {σ : Sl} {H : AHeap} {k : KOp} {r : AV × AHeap} (h : evalOp c1 σ H k = some r) : evalOp c2 σ H k = some r := by
  cases k
  case call f xs =>
    simp only [evalOp] at h ⊢
    split at h
    · exact hle _ _ _ _ h
    · cases h
  all_goals exact h
theorem evalKO_mono {k : KO} {s s' : St} (h : evalKO c1 k s = some s') : evalKO c2 k s = some s' := by
  unfold evalKO at h ⊢
  split
  · rename_i hw
    rw [if_pos hw] at h
    simp only [Option.map_eq_some_iff] at h ⊢
    obtain ⟨r, h1, h2⟩ := h
    exact ⟨r, evalOp_mono hle h1, h2⟩
  · rename_i hw
    rw [if_neg hw] at h
    exact h
theorem evalOps_mono : ∀ {l : List KO} {s s' : St}, evalOps c1 l s = some s' → evalOps c2 l s = some s'
  | [], s, s', h => h
  | o :: l, s, s', h => by
    simp only [evalOps, Option.bind_eq_some_iff] at h ⊢
    obtain ⟨s1, h1, h2⟩ := h
    exact ⟨s1, evalKO_mono hle h1, evalOps_mono h2⟩
theorem evalDrawn_mono : ∀ {l : List (KO × List KO)} {s s' : St}, evalDrawn c1 l s = some s' → evalDrawn c2 l s = some s'
  | [], s, s', h => h
  | x :: l, s, s', h => by
    simp only [evalDrawn, Option.bind_eq_some_iff] at h ⊢
    obtain ⟨s1, h1, h2⟩ := h
    refine ⟨s1, evalOps_mono hle h1, ?_⟩
    split at h2
    · rename_i hr; rw [if_pos hr]; exact evalDrawn_mono h2
    · simp at h2
end

theorem iter_mono {f g : St → Option (Ex × St)} (hfg : ∀ s r, f s = some r → g s = some r) : ∀ {n m : Nat} {s : St} {r : Ex × St}, n ≤ m → iter f n s = some r → iter g m s = some r
  | 0, _, _, _, _, h => by simp [iter] at h
  | n + 1, 0, _, _, hn, _ => by omega
  | n + 1, m + 1, s, r, hn, h => by
    simp only [iter] at h ⊢
    cases hf : f s with
    | none => rw [hf] at h; simp at h
    | some x =>
      rw [hf] at h
      rw [hfg s x hf]
      obtain ⟨e, s'⟩ := x
      cases e with
      | norm => exact iter_mono hfg (by omega) h
      | exit id => exact h
      | ret => exact h

theorem evalC_mono {c1 c2 : CallA} (hle : LeC c1 c2) {n m : Nat} (hn : n ≤ m) : ∀ {k : KC} {s : St} {r : Ex × St}, evalC c1 n k s = some r → evalC c2 m k s = some r := by
  intro k
  induction k with
  | skip => intro s r h; exact h
  | region ops =>
    intro s r h
    simp only [evalC, Option.map_eq_some_iff] at h ⊢
    obtain ⟨s1, h1, h2⟩ := h
    exact ⟨s1, evalOps_mono hle h1, h2⟩
  | drawn steps =>
    intro s r h
    simp only [evalC, Option.map_eq_some_iff] at h ⊢
    obtain ⟨s1, h1, h2⟩ := h
    exact ⟨s1, evalDrawn_mono hle h1, h2⟩
  | seq a b iha ihb =>
    intro s r h
    simp only [evalC] at h ⊢
    cases ha : evalC c1 n a s with
    | none => rw [ha] at h; simp at h
    | some x =>
      rw [ha] at h
      rw [iha ha]
      obtain ⟨e, s'⟩ := x
      cases e with
      | norm => exact ihb h
      | exit id => exact h
      | ret => exact h
  | cond x a b iha ihb =>
    intro s r h
    simp only [evalC] at h ⊢
    split at h
    · rename_i t ht
      cases t
      · exact ihb h
      · exact iha h
    · simp at h
  | block id c ih =>
    intro s r h
    simp only [evalC] at h ⊢
    cases ha : evalC c1 n c s with
    | none => rw [ha] at h; simp at h
    | some x => rw [ha] at h; rw [ih ha]; exact h
  | loop c ih =>
    intro s r h
    simp only [evalC] at h ⊢
    exact iter_mono (fun s r => ih) hn h
  | exit id => intro s r h; exact h
  | ret => intro s r h; exact h
  | nat np n φ => intro s r h; exact h

theorem evalBody_mono {c1 c2 : CallA} (hle : LeC c1 c2) {n m : Nat} (hn : n ≤ m) {kf : KF} {args : List AV} {H : AHeap} {r : AV × AHeap} (h : evalBody c1 n kf args H = some r) : evalBody c2 m kf args H = some r := by
  unfold evalBody at h ⊢
  split at h
  case isFalse => simp at h
  rename_i hl
  rw [if_pos hl]
  cases hc : evalC c1 n kf.body (fun i => args.getD i (.c .undef), H) with
  | none => rw [hc] at h; simp at h
  | some x => rw [hc] at h; rw [evalC_mono hle hn hc]; exact h

theorem evalF_mono (K : FuncId → Option KF) : ∀ {n m : Nat}, n ≤ m → LeC (evalF K n) (evalF K m)
  | 0, _, _ => fun f a H r h => by simp [evalF] at h
  | n + 1, 0, hn => by omega
  | n + 1, m + 1, hn => fun f a H r h => by
    simp only [evalF] at h ⊢
    split at h
    · rename_i kf hk
      exact evalBody_mono (evalF_mono K (by omega)) (by omega) h
    · simp at h

/-! ### Without rounds -/
open Classical in
/-- The one value of a sequence that stays where it is told. -/
noncomputable def lim {α : Type} (f : Nat → Option α) : Option α := if h : ∃ r, ∃ n, f n = some r then some h.choose else none
theorem lim_some {α : Type} {f : Nat → Option α} (hm : ∀ n m r, n ≤ m → f n = some r → f m = some r) {r : α} : lim f = some r ↔ ∃ n, f n = some r := by
  constructor
  · intro h
    unfold lim at h
    split at h
    · rename_i hx
      simp at h; subst h
      exact hx.choose_spec
    · simp at h
  · rintro ⟨n, hn⟩
    have hx : ∃ r, ∃ n, f n = some r := ⟨r, n, hn⟩
    unfold lim
    rw [dif_pos hx]
    obtain ⟨m, hm'⟩ := hx.choose_spec
    have e1 := hm n (max n m) r (Nat.le_max_left _ _) hn
    have e2 := hm m (max n m) _ (Nat.le_max_right _ _) hm'
    rw [e1] at e2
    exact e2.symm

noncomputable def evC (call : CallA) (k : KC) (s : St) : Option (Ex × St) := lim fun n => evalC call n k s
noncomputable def ev (K : FuncId → Option KF) : CallA := fun f args H => lim fun n => evalF K n f args H

theorem evC_some {call : CallA} {k : KC} {s : St} {r : Ex × St} : evC call k s = some r ↔ ∃ n, evalC call n k s = some r :=
  lim_some fun n m r hn h => evalC_mono (LeC.refl call) hn h
theorem ev_some {K : FuncId → Option KF} {f : FuncId} {args : List AV} {H : AHeap} {r : AV × AHeap} : ev K f args H = some r ↔ ∃ n, evalF K n f args H = some r :=
  lim_some fun n m r hn h => evalF_mono K hn f args H r h

theorem opt_ext {α : Type} {x y : Option α} (h : ∀ r, x = some r ↔ y = some r) : x = y := by
  cases x with
  | none =>
    cases y with
    | none => rfl
    | some b => exact absurd ((h b).2 rfl) (by simp)
  | some a => exact ((h a).1 rfl).symm

section
variable {call : CallA} {s : St}
theorem evC_skip : evC call .skip s = some (.norm, s) := evC_some.2 ⟨0, rfl⟩
theorem evC_exit {id : Nat} : evC call (.exit id) s = some (.exit id, s) := evC_some.2 ⟨0, rfl⟩
theorem evC_ret : evC call .ret s = some (.ret, s) := evC_some.2 ⟨0, rfl⟩
theorem evC_nat {np n : Nat} {φ : List AV → AHeap → Option (List V0 × AHeap)} : evC call (.nat np n φ) s = if ((List.range np).map s.1).all AV.isDef = true then (φ ((List.range np).map s.1) s.2).bind fun x => if x.1.length = n then some (.norm, (fun j => if j < np then s.1 j else ((x.1[j - np]?).map V0.toAV).getD (.c .undef), x.2)) else none else none :=
  opt_ext fun r => evC_some.trans ⟨fun ⟨_, h⟩ => h, fun h => ⟨0, h⟩⟩
theorem evC_region {ops : List KO} : evC call (.region ops) s = (evalOps call ops s).map fun s' => (.norm, s') :=
  opt_ext fun r => evC_some.trans ⟨fun ⟨_, h⟩ => h, fun h => ⟨0, h⟩⟩
theorem evC_drawn {steps : List (KO × List KO)} : evC call (.drawn steps) s = (evalDrawn call steps s).map fun s' => (.norm, s') :=
  opt_ext fun r => evC_some.trans ⟨fun ⟨_, h⟩ => h, fun h => ⟨0, h⟩⟩
/-- What follows a piece. -/
def andThen (x : Option (Ex × St)) (f : St → Option (Ex × St)) : Option (Ex × St) :=
  match x with
  | some (.norm, s') => f s'
  | r => r
theorem evC_seq {a b : KC} : evC call (.seq a b) s = andThen (evC call a s) (evC call b) := by
  refine opt_ext fun r => evC_some.trans ⟨?_, ?_⟩
  · rintro ⟨n, h⟩
    simp only [evalC] at h
    cases ha : evalC call n a s with
    | none => rw [ha] at h; simp at h
    | some x =>
      rw [ha] at h
      have e1 := evC_some.2 ⟨n, ha⟩
      rw [e1]
      obtain ⟨e, s'⟩ := x
      cases e with
      | norm => exact evC_some.2 ⟨n, h⟩
      | exit id => exact h
      | ret => exact h
  · intro h
    cases ha : evC call a s with
    | none => rw [ha] at h; simp [andThen] at h
    | some x =>
      rw [ha] at h
      obtain ⟨n, hn⟩ := evC_some.1 ha
      obtain ⟨e, s'⟩ := x
      cases e with
      | norm =>
        obtain ⟨m, hm⟩ := evC_some.1 (show evC call b s' = some r from h)
        refine ⟨max n m, ?_⟩
        simp only [evalC]
        rw [evalC_mono (LeC.refl call) (Nat.le_max_left n m) hn]
        exact evalC_mono (LeC.refl call) (Nat.le_max_right n m) hm
      | exit id => exact ⟨n, by simp only [evalC]; rw [hn]; exact h⟩
      | ret => exact ⟨n, by simp only [evalC]; rw [hn]; exact h⟩
theorem evC_cond {x : Opd} {a b : KC} {t : Bool} (h : x.ev s.1 = .c (.bool t)) : evC call (.cond x a b) s = if t = true then evC call a s else evC call b s := by
  refine opt_ext fun r => evC_some.trans ?_
  simp only [evalC, h]
  cases t
  · simpa using evC_some.symm
  · simpa using evC_some.symm
/-- A block's way out. -/
def outOf (id : Nat) (x : Option (Ex × St)) : Option (Ex × St) :=
  match x with
  | some (.exit j, s') => if j = id then some (.norm, s') else some (.exit j, s')
  | r => r
theorem evC_block {id : Nat} {c : KC} : evC call (.block id c) s = outOf id (evC call c s) := by
  refine opt_ext fun r => evC_some.trans ⟨?_, ?_⟩
  · rintro ⟨n, h⟩
    simp only [evalC] at h
    cases ha : evalC call n c s with
    | none => rw [ha] at h; simp at h
    | some x => rw [ha] at h; rw [evC_some.2 ⟨n, ha⟩]; exact h
  · intro h
    cases ha : evC call c s with
    | none => rw [ha] at h; simp [outOf] at h
    | some x =>
      rw [ha] at h
      obtain ⟨n, hn⟩ := evC_some.1 ha
      exact ⟨n, by simp only [evalC]; rw [hn]; exact h⟩
theorem evC_loop {c : KC} : evC call (.loop c) s = andThen (evC call c s) (evC call (.loop c)) := by
  refine opt_ext fun r => evC_some.trans ⟨?_, ?_⟩
  · rintro ⟨n, h⟩
    cases n with
    | zero => simp [evalC, iter] at h
    | succ n =>
      simp only [evalC, iter] at h
      cases ha : evalC call (n + 1) c s with
      | none => rw [ha] at h; simp at h
      | some x =>
        rw [ha] at h
        rw [evC_some.2 ⟨n + 1, ha⟩]
        obtain ⟨e, s'⟩ := x
        cases e with
        | norm =>
          refine evC_some.2 ⟨n + 1, ?_⟩
          simp only [evalC]
          exact iter_mono (fun s r h => h) (by omega) h
        | exit id => exact h
        | ret => exact h
  · intro h
    cases ha : evC call c s with
    | none => rw [ha] at h; simp [andThen] at h
    | some x =>
      rw [ha] at h
      obtain ⟨n, hn⟩ := evC_some.1 ha
      obtain ⟨e, s'⟩ := x
      cases e with
      | norm =>
        obtain ⟨m, hm⟩ := evC_some.1 (show evC call (.loop c) s' = some r from h)
        refine ⟨max n m + 1, ?_⟩
        simp only [evalC, iter]
        rw [evalC_mono (LeC.refl call) (show n ≤ max n m + 1 by omega) hn]
        simp only [evalC] at hm
        exact iter_mono (fun s r h => evalC_mono (LeC.refl call) (show m ≤ max n m + 1 by omega) h) (show m ≤ max n m by omega) hm
      | exit id =>
        refine ⟨n + 1, ?_⟩
        simp only [evalC, iter]
        rw [evalC_mono (LeC.refl call) (show n ≤ n + 1 by omega) hn]; exact h
      | ret =>
        refine ⟨n + 1, ?_⟩
        simp only [evalC, iter]
        rw [evalC_mono (LeC.refl call) (show n ≤ n + 1 by omega) hn]; exact h
end

/-- A function's body. -/
noncomputable def evB (call : CallA) (kf : KF) (args : List AV) (H : AHeap) : Option (AV × AHeap) :=
  if args.length ≤ kf.np then
    match evC call kf.body (fun i => args.getD i (.c .undef), H) with
    | some (.norm, σ, H') | some (.ret, σ, H') => match evalRs σ H' kf.res with
      | some vs => finish kf.gc H (mkRes vs) H'
      | none => none
    | _ => none
  else none

/-! Only so many rounds are needed -/
theorem evalOps_fin {K : FuncId → Option KF} : ∀ {l : List KO} {s s' : St}, evalOps (ev K) l s = some s' → ∃ n, evalOps (evalF K n) l s = some s'
  | [], s, s', h => ⟨0, h⟩
  | o :: l, s, s', h => by
    simp only [evalOps, Option.bind_eq_some_iff] at h
    obtain ⟨s1, h1, h2⟩ := h
    obtain ⟨n2, h2⟩ := evalOps_fin h2
    have : ∃ n1, evalKO (evalF K n1) o s = some s1 := by
      unfold evalKO at h1 ⊢
      split at h1
      · rename_i hw
        simp only [Option.map_eq_some_iff] at h1
        obtain ⟨r, h3, h4⟩ := h1
        have : ∃ n, evalOp (evalF K n) s.1 s.2 o.op = some r := by
          generalize o.op = k at h3
          cases k
          case call f xs =>
            simp only [evalOp] at h3 ⊢
            split at h3
            · exact ev_some.1 h3
            · simp at h3
          all_goals exact ⟨0, h3⟩
        obtain ⟨n, hn⟩ := this
        exact ⟨n, by rw [if_pos hw, hn]; simp [h4]⟩
      · rename_i hw
        exact ⟨0, by rw [if_neg hw]; exact h1⟩
    obtain ⟨n1, h1⟩ := this
    refine ⟨max n1 n2, ?_⟩
    simp only [evalOps, Option.bind_eq_some_iff]
    exact ⟨s1, evalKO_mono (evalF_mono K (Nat.le_max_left _ _)) h1, evalOps_mono (evalF_mono K (Nat.le_max_right _ _)) h2⟩

theorem evalDrawn_fin {K : FuncId → Option KF} : ∀ {l : List (KO × List KO)} {s s' : St}, evalDrawn (ev K) l s = some s' → ∃ n, evalDrawn (evalF K n) l s = some s'
  | [], s, s', h => ⟨0, h⟩
  | x :: l, s, s', h => by
    simp only [evalDrawn, Option.bind_eq_some_iff] at h
    obtain ⟨s1, h1, h2⟩ := h
    split at h2
    case isFalse => simp at h2
    rename_i hr
    obtain ⟨n1, h1⟩ := evalOps_fin h1
    obtain ⟨n2, h2⟩ := evalDrawn_fin h2
    refine ⟨max n1 n2, ?_⟩
    simp only [evalDrawn, Option.bind_eq_some_iff]
    exact ⟨s1, evalOps_mono (evalF_mono K (Nat.le_max_left _ _)) h1, by rw [if_pos hr]; exact evalDrawn_mono (evalF_mono K (Nat.le_max_right _ _)) h2⟩

theorem evalC_fin {K : FuncId → Option KF} {m : Nat} : ∀ {k : KC} {s : St} {r : Ex × St}, evalC (ev K) m k s = some r → ∃ n, evalC (evalF K n) m k s = some r := by
  intro k
  induction k with
  | skip => intro s r h; exact ⟨0, h⟩
  | region ops =>
    intro s r h
    simp only [evalC, Option.map_eq_some_iff] at h ⊢
    obtain ⟨s1, h1, h2⟩ := h
    obtain ⟨n, hn⟩ := evalOps_fin h1
    exact ⟨n, s1, hn, h2⟩
  | drawn steps =>
    intro s r h
    simp only [evalC, Option.map_eq_some_iff] at h ⊢
    obtain ⟨s1, h1, h2⟩ := h
    obtain ⟨n, hn⟩ := evalDrawn_fin h1
    exact ⟨n, s1, hn, h2⟩
  | seq a b iha ihb =>
    intro s r h
    simp only [evalC] at h
    cases ha : evalC (ev K) m a s with
    | none => rw [ha] at h; simp at h
    | some x =>
      rw [ha] at h
      obtain ⟨n1, h1⟩ := iha ha
      obtain ⟨e, s'⟩ := x
      cases e with
      | norm =>
        obtain ⟨n2, h2⟩ := ihb h
        refine ⟨max n1 n2, ?_⟩
        simp only [evalC]
        rw [evalC_mono (evalF_mono K (Nat.le_max_left n1 n2)) (Nat.le_refl m) h1]
        exact evalC_mono (evalF_mono K (Nat.le_max_right n1 n2)) (Nat.le_refl m) h2
      | exit id => exact ⟨n1, by simp only [evalC]; rw [h1]; exact h⟩
      | ret => exact ⟨n1, by simp only [evalC]; rw [h1]; exact h⟩
  | cond x a b iha ihb =>
    intro s r h
    simp only [evalC] at h ⊢
    split at h
    · rename_i t ht
      cases t
      · exact ihb h
      · exact iha h
    · simp at h
  | block id c ih =>
    intro s r h
    simp only [evalC] at h
    cases ha : evalC (ev K) m c s with
    | none => rw [ha] at h; simp at h
    | some x =>
      rw [ha] at h
      obtain ⟨n, hn⟩ := ih ha
      exact ⟨n, by simp only [evalC]; rw [hn]; exact h⟩
  | loop c ih =>
    intro s r h
    simp only [evalC] at h ⊢
    have : ∀ (q : Nat) (s : St), iter (evalC (ev K) m c) q s = some r → ∃ n, iter (evalC (evalF K n) m c) q s = some r := by
      intro q
      induction q with
      | zero => intro s h; simp [iter] at h
      | succ q ihq =>
        intro s h
        simp only [iter] at h
        cases ha : evalC (ev K) m c s with
        | none => rw [ha] at h; simp at h
        | some x =>
          rw [ha] at h
          obtain ⟨n1, h1⟩ := ih ha
          obtain ⟨e, s'⟩ := x
          cases e with
          | norm =>
            obtain ⟨n2, h2⟩ := ihq s' h
            refine ⟨max n1 n2, ?_⟩
            simp only [iter]
            rw [evalC_mono (evalF_mono K (Nat.le_max_left n1 n2)) (Nat.le_refl m) h1]
            exact iter_mono (fun s r h => evalC_mono (evalF_mono K (Nat.le_max_right n1 n2)) (Nat.le_refl m) h) (Nat.le_refl q) h2
          | exit id => exact ⟨n1, by simp only [iter]; rw [h1]; exact h⟩
          | ret => exact ⟨n1, by simp only [iter]; rw [h1]; exact h⟩
    exact this m s h
  | exit id => intro s r h; exact ⟨0, h⟩
  | ret => intro s r h; exact ⟨0, h⟩
  | nat np n φ => intro s r h; exact ⟨0, h⟩

/-- A call is its function's body. -/
theorem ev_call {K : FuncId → Option KF} {f : FuncId} {kf : KF} (hk : K f = some kf) (args : List AV) (H : AHeap) : ev K f args H = evB (ev K) kf args H := by
  refine opt_ext fun r => ev_some.trans ⟨?_, ?_⟩
  · rintro ⟨n, h⟩
    cases n with
    | zero => simp [evalF] at h
    | succ n =>
      simp only [evalF, hk] at h
      have h' := evalBody_mono (c2 := ev K) (fun f a H r h => ev_some.2 ⟨n, h⟩) (Nat.le_refl (n + 1)) h
      unfold evalBody at h'
      unfold evB
      split at h'
      case isFalse => simp at h'
      rename_i hl
      rw [if_pos hl]
      cases hc : evalC (ev K) (n + 1) kf.body (fun i => args.getD i (.c .undef), H) with
      | none => rw [hc] at h'; simp at h'
      | some x => rw [hc] at h'; rw [evC_some.2 ⟨n + 1, hc⟩]; exact h'
  · intro h
    unfold evB at h
    split at h
    case isFalse => simp at h
    rename_i hl
    cases hc : evC (ev K) kf.body (fun i => args.getD i (.c .undef), H) with
    | none => rw [hc] at h; simp at h
    | some x =>
      rw [hc] at h
      obtain ⟨m, hm⟩ := evC_some.1 hc
      obtain ⟨n, hn⟩ := evalC_fin hm
      refine ⟨max n m + 1, ?_⟩
      simp only [evalF, hk]
      unfold evalBody
      rw [if_pos hl, evalC_mono (evalF_mono K (Nat.le_max_left n m)) (show m ≤ max n m + 1 by omega) hn]
      exact h

/-! Functions that are told by what they answer -/
theorem toV0_toAV (v : V0) : v.toAV.toV0? = some v := by cases v <;> rfl
theorem evalRs_nat {σ : Sl} {H : AHeap} {np : Nat} : ∀ (m i : Nat) (vs : List V0), i + m = vs.length → (∀ j, i ≤ j → j < vs.length → σ (np + j) = ((vs[j]?).map V0.toAV).getD (.c .undef)) → evalRs σ H ((List.range' i m).map fun j => .tmp (np + j)) = some (vs.drop i)
  | 0, i, vs, h, _ => by rw [List.drop_eq_nil_of_le (by omega)]; rfl
  | m + 1, i, vs, h, hv => by
    have hi : i < vs.length := by omega
    have h1 := hv i (Nat.le_refl _) hi
    rw [List.getElem?_eq_getElem hi] at h1
    rw [List.range'_succ, List.map_cons]
    unfold evalRs
    rw [evalRs_nat m (i + 1) vs (by omega) (fun j h2 h3 => hv j (by omega) h3), List.drop_eq_getElem_cons hi]
    simp only [evalR, h1, Option.map_some, Option.getD_some, toV0_toAV]
theorem range_args {args : List AV} {np : Nat} (h : args.length = np) : (List.range np).map (fun i => args.getD i (.c .undef)) = args := by
  apply List.ext_getElem
  · simp [h]
  · intro i h1 h2
    simp [h2]
theorem body_nat {call : CallA} {fuel np n : Nat} {φ : List AV → AHeap → Option (List V0 × AHeap)} {args : List AV} {H : AHeap} {r : AV × AHeap} : evalBody call fuel (kNat np n φ) args H = some r ↔ args.length = np ∧ args.all AV.isDef = true ∧ ∃ vs, φ args H = some (vs, r.2) ∧ vs.length = n ∧ r.1 = mkRes vs := by
  by_cases ha : args.length = np
  · unfold evalBody kNat
    rw [if_pos (Nat.le_of_eq ha)]
    simp only [evalC, range_args ha]
    by_cases hd : args.all AV.isDef = true
    · rw [if_pos hd]
      cases hp : φ args H with
      | none => simp
      | some x =>
        simp only [Option.bind_some]
        by_cases hn : x.1.length = n
        · subst hn
          simp only [if_true]
          rw [List.range_eq_range', evalRs_nat x.1.length 0 x.1 (by omega) (fun j _ h => by simp; omega)]
          obtain ⟨vs, H'⟩ := x
          obtain ⟨r1, r2⟩ := r
          simp only [finish, List.drop_zero, Bool.false_eq_true, if_false, Option.some.injEq, Prod.mk.injEq, ha, hd, true_and]
          constructor
          · rintro ⟨rfl, rfl⟩; exact ⟨vs, ⟨rfl, rfl⟩, rfl, rfl⟩
          · rintro ⟨vs', ⟨rfl, rfl⟩, _, rfl⟩; exact ⟨rfl, rfl⟩
        · simp only [hn, if_false, reduceCtorEq, false_iff]
          rintro ⟨_, _, vs, h1, h2, _⟩
          injection h1 with h1
          exact hn (by rw [h1]; exact h2)
    · rw [if_neg hd]
      simp [hd]
  · simp only [ha, false_and, iff_false]
    intro h
    unfold evalBody kNat at h
    split at h
    case isFalse => simp at h
    rename_i hl
    simp only at hl
    simp only [evalC] at h
    rw [if_neg] at h
    · simp at h
    · intro hh
      have := List.all_eq_true.1 hh (.c .undef) (List.mem_map.2 ⟨args.length, List.mem_range.2 (by omega), by simp⟩)
      simp [AV.isDef] at this
theorem ev_nat {K : FuncId → Option KF} {f : FuncId} {np n : Nat} {φ : List AV → AHeap → Option (List V0 × AHeap)} (hk : K f = some (kNat np n φ)) {args : List AV} (ha : args.length = np) (hd : args.all AV.isDef = true) {H H' : AHeap} {vs : List V0} (h : φ args H = some (vs, H')) (hn : vs.length = n) : ev K f args H = some (mkRes vs, H') := by
  refine ev_some.2 ⟨1, ?_⟩
  simp only [evalF, hk]
  exact body_nat.2 ⟨ha, hd, vs, h, hn, rfl⟩

end Go.Proofs.YtmockobmiagbcaaDoor.VI

set_option linter.unusedVariables false
set_option linter.unusedSimpArgs false
set_option linter.unusedSectionVars false
namespace Go.Proofs.YtmockobmiagbcaaDoor.VI
open Go Go.RowKit

theorem rel_is_bool {β : Beta} {v : AV} {b : Bool} (h : v.rel β (.bool b)) : v = .c (.bool b) := by
  cases v with
  | c v =>
    cases v with
    | bool b' => have : Value.bool b = .bool b' := h; simp at this; rw [this]
    | ptr a => cases a with
      | none => simp [AV.rel, CV.rel] at h
      | some p => obtain ⟨_, _, h⟩ := h; simp at h
    | slice a l c => cases a with
      | none => simp [AV.rel, CV.rel] at h
      | some p => obtain ⟨_, _, _, _, h, _⟩ := h; simp at h
    | fn f c => obtain ⟨_, h, _⟩ := h; simp at h
    | undef => simp [AV.rel, CV.rel, Go.undef] at h
    | _ => simp [AV.rel, CV.rel] at h
  | agg cs => obtain ⟨_, h, _⟩ := h; simp at h
  | tup vs => obtain ⟨_, h, _⟩ := h; simp at h

section
variable {P : Program} {call : CallA} {B0 : Nat} {n : Nat} {ops : Array Oper}

theorem want_eq {β : Beta} {σ : Sl} {a : Act} (hs : SR β σ a) {o : Oper} {k : KO} (h : cOper P n ops o = some k) : Region.wanted o (yielded ops a.tmps) = wantA σ k.g := by
  unfold cOper at h
  split at h
  case isFalse => simp at h
  split at h
  case h_2 => simp at h
  split at h
  · rename_i hg
    simp at h; subst h
    simp [Region.wanted, hg, wantA]
  · rename_i j want hg
    simp only [Option.map_eq_some_iff] at h
    obtain ⟨s, hsl, rfl⟩ := h
    unfold cSlot at hsl
    have hr := hs.at_ s
    by_cases hb : ∃ b, σ s = .c (.bool b)
    · obtain ⟨b, hb⟩ := hb
      rw [hb] at hr
      have hx : a.tmps.getD s Go.undef = .bool b := hr
      have ht : a.tmps[s]? = some (.bool b) := by
        cases ht : a.tmps[s]? with
        | none => rw [Array.getD_eq_getD_getElem?, ht] at hx; simp [Go.undef] at hx
        | some x => rw [Array.getD_eq_getD_getElem?, ht] at hx; simp at hx; rw [hx]
      simp only [Region.wanted, hg, wantA, yielded, hsl, Option.bind_some, ht, hb]
      rw [Bool.eq_iff_iff]; simp
    · have h1 : wantA σ (some (s, want)) = false := by
        unfold wantA
        split
        · rename_i e; cases e
        · rename_i e
          cases e
          split
          · rename_i b hb'; exact absurd ⟨b, hb'⟩ hb
          · rfl
      rw [h1]
      simp only [Region.wanted, hg, yielded, hsl, Option.bind_some]
      cases ht : a.tmps[s]? with
      | none => simp
      | some x =>
        have e : a.tmps.getD s Go.undef = x := by simp [Array.getD_eq_getD_getElem?, ht]
        rw [e] at hr
        cases x with
        | bool b => exact absurd ⟨b, rel_is_bool hr⟩ hb
        | _ => simp

theorem cOper_parts {o : Oper} {k : KO} (h : cOper P n ops o = some k) : k.dst = o.dst ∧ cOp P o.op = some k.op ∧ (∀ d, o.dst = some d → d < n) := by
  unfold cOper at h
  split at h
  case isFalse => simp at h
  rename_i hd
  split at h
  case h_2 => simp at h
  rename_i kop hk
  have hdst : ∀ d, o.dst = some d → d < n := by
    intro d hd'
    rw [hd'] at hd
    simpa [dstOk] using hd
  split at h
  · simp at h; subst h; exact ⟨rfl, hk, hdst⟩
  · simp only [Option.map_eq_some_iff] at h
    obtain ⟨s, _, rfl⟩ := h
    exact ⟨rfl, hk, hdst⟩

theorem put_defers' {a : Act} {d : Option Tmp} {x : Value} : (a.put d x).defers = a.defers := by cases d <;> rfl

theorem ko_sound (hc : CallOk P call) {β : Beta} {σ σ' : Sl} {H H' : AHeap} {a : Act} {w : World} (hs : SR β σ a) (hn : a.tmps.size = n) (hd : a.defers = []) (hr : HR B0 β H w) {i : Nat} {o : Oper} {k : KO} (hi : ops[i]? = some o) (h : cOper P n ops o = some k) (he : evalKO call k (σ, H) = some (σ', H'))
    {K : Act → World → Prop} {Q : Exit → Act → World → Prop} (hK : ∀ β' a' w', SR β' σ' a' → a'.tmps.size = n → a'.defers = [] → Go_ B0 β H w β' H' w' → K a' w') : wpOp P ops Q i K a w := by
  obtain ⟨hdst, hop, hlt⟩ := cOper_parts h
  have hw := want_eq hs h
  unfold evalKO at he
  unfold wpOp
  simp only [hi]
  rw [hw]
  split
  · rename_i hwa
    rw [if_pos hwa] at he
    simp only [Option.map_eq_some_iff] at he
    obtain ⟨⟨v, H1⟩, he, e⟩ := he
    simp only [Prod.mk.injEq] at e
    obtain ⟨rfl, rfl⟩ := e
    refine .inl (op_sound hc hs hr hop he fun β' x w' hv hg => ?_)
    refine hK β' _ w' ?_ (by rw [put_size]; exact hn) (by rw [put_defers']; exact hd) hg
    rw [hdst]
    exact (hs.ext hg.ext).put (fun d e => by rw [hn]; exact hlt d e) hv
  · rename_i hwa
    rw [if_neg hwa] at he
    simp only [Option.some.injEq, Prod.mk.injEq] at he
    obtain ⟨rfl, rfl⟩ := he
    refine hK β _ w ?_ (by rw [put_size]; exact hn) (by rw [put_defers']; exact hd) (.refl hr)
    rw [hdst]
    exact hs.put (fun d e => by rw [hn]; exact hlt d e) rfl

theorem ops_sound (hc : CallOk P call) {Q : Exit → Act → World → Prop} : ∀ (l : List Oper) (i : Nat) (ks : List KO) (β : Beta) (σ σ' : Sl) (H H' : AHeap) (a : Act) (w : World), (∀ j, l[j]? = ops[i + j]?) → cOpers P n ops l = some ks → evalOps call ks (σ, H) = some (σ', H') →
    SR β σ a → a.tmps.size = n → a.defers = [] → HR B0 β H w → (∀ β' a' w', SR β' σ' a' → a'.tmps.size = n → a'.defers = [] → Go_ B0 β H w β' H' w' → Q .normal a' w') → wpOps P ops Q (List.range' i l.length) a w
  | [], i, ks, β, σ, σ', H, H', a, w, _, hk, he, hs, hn, hd, hr, hQ => by
    simp [cOpers] at hk; subst hk
    simp only [evalOps, Option.some.injEq, Prod.mk.injEq] at he
    obtain ⟨rfl, rfl⟩ := he
    simpa [wpOps] using hQ β a w hs hn hd (.refl hr)
  | o :: l, i, ks, β, σ, σ', H, H', a, w, hl, hk, he, hs, hn, hd, hr, hQ => by
    simp only [cOpers] at hk
    split at hk
    case h_2 => simp at hk
    rename_i k ks' h1 h2
    simp at hk; subst hk
    simp only [evalOps, Option.bind_eq_some_iff] at he
    obtain ⟨⟨σ1, H1⟩, he1, he2⟩ := he
    rw [List.length_cons, List.range'_succ, wpOps_cons]
    refine ko_sound hc hs hn hd hr (i := i) (o := o) (by simpa using (hl 0).symm) h1 he1 fun β1 a1 w1 hs1 hn1 hd1 hg1 => ?_
    refine ops_sound hc l (i + 1) ks' β1 σ1 σ' H1 H' a1 w1 (fun j => by have := hl (j + 1); simpa [Nat.add_assoc, Nat.add_comm 1 j] using this) h2 he2 hs1 hn1 hd1 hg1.hr fun β' a' w' h3 h4 h5 h6 => ?_
    exact hQ β' a' w' h3 h4 h5 (hg1.trans h6)

def Ex.toExit : Ex → Exit
  | .norm => .normal
  | .exit id => .exit id
  | .ret => .ret

/-- What is shown of a drawn region. -/
def DrawnOk (P : Program) (call : CallA) (n : Nat) : Prop :=
  ∀ (id : Nat) (ops : Array Oper) (k : KC), cDrawn P n ops = some k → ∀ (fuel : Nat) (B0 : Nat) (β : Beta) (σ : Sl) (H : AHeap) (ex : Ex) (σ' : Sl) (H' : AHeap) (a : Act) (w : World) (Q : Exit → Act → World → Prop),
    evalC call fuel k (σ, H) = some (ex, (σ', H')) → SR β σ a → a.tmps.size = n → a.defers = [] → HR B0 β H w → (∀ β' a' w', SR β' σ' a' → a'.tmps.size = n → a'.defers = [] → Go_ B0 β H w β' H' w' → Q ex.toExit a' w') → (Code.region id ops true).wp P Q a w

theorem code_sound (hc : CallOk P call) (hdr : DrawnOk P call n) (fuel : Nat) : ∀ (c : Code) (k : KC), cCode P n c = some k → ∀ (β : Beta) (σ : Sl) (H : AHeap) (ex : Ex) (σ' : Sl) (H' : AHeap) (a : Act) (w : World) (Q : Exit → Act → World → Prop),
    evalC call fuel k (σ, H) = some (ex, (σ', H')) → SR β σ a → a.tmps.size = n → a.defers = [] → HR B0 β H w → (∀ β' a' w', SR β' σ' a' → a'.tmps.size = n → a'.defers = [] → Go_ B0 β H w β' H' w' → Q ex.toExit a' w') → c.wp P Q a w := by
  intro c
  induction c with
  | skip =>
    intro k hk β σ H ex σ' H' a w Q he hs hn hd hr hQ
    simp [cCode] at hk; subst hk
    simp only [evalC, Option.some.injEq, Prod.mk.injEq] at he
    obtain ⟨rfl, rfl, rfl⟩ := he
    exact wp_skip (hQ β a w hs hn hd (.refl hr))
  | region id ops draw =>
    intro k hk β σ H ex σ' H' a w Q he hs hn hd hr hQ
    cases draw with
    | true =>
      simp only [cCode] at hk
      exact hdr id ops k hk fuel B0 β σ H ex σ' H' a w Q he hs hn hd hr hQ
    | false =>
      simp only [cCode, Option.map_eq_some_iff] at hk
      obtain ⟨ks, hks, rfl⟩ := hk
      simp only [evalC, Option.map_eq_some_iff] at he
      obtain ⟨⟨σ1, H1⟩, he, e⟩ := he
      simp only [Prod.mk.injEq] at e
      obtain ⟨rfl, rfl, rfl⟩ := e
      refine wp_region ?_
      have := ops_sound (n := n) hc (Q := Q) ops.toList 0 ks β σ σ1 H H1 a w (by simp) hks he hs hn hd hr hQ
      rw [List.range_eq_range']
      simpa using this
  | seq x y ihx ihy =>
    intro k hk β σ H ex σ' H' a w Q he hs hn hd hr hQ
    simp only [cCode] at hk
    split at hk
    case h_2 => simp at hk
    rename_i kx ky h1 h2
    simp at hk; subst hk
    simp only [evalC] at he
    refine wp_seq ?_
    cases hx : evalC call fuel kx (σ, H) with
    | none => rw [hx] at he; simp at he
    | some r =>
      obtain ⟨e1, σ1, H1⟩ := r
      rw [hx] at he
      refine ihx kx h1 β σ H e1 σ1 H1 a w _ hx hs hn hd hr fun β1 a1 w1 hs1 hn1 hd1 hg1 => ?_
      cases e1 with
      | norm =>
        simp only at he
        exact ihy ky h2 β1 σ1 H1 ex σ' H' a1 w1 Q he hs1 hn1 hd1 hg1.hr fun β' a' w' h3 h4 h5 h6 => hQ β' a' w' h3 h4 h5 (hg1.trans h6)
      | exit id =>
        simp only [Option.some.injEq, Prod.mk.injEq] at he
        obtain ⟨rfl, rfl, rfl⟩ := he
        exact hQ β1 a1 w1 hs1 hn1 hd1 hg1
      | ret =>
        simp only [Option.some.injEq, Prod.mk.injEq] at he
        obtain ⟨rfl, rfl, rfl⟩ := he
        exact hQ β1 a1 w1 hs1 hn1 hd1 hg1
  | cond x t e iht ihe =>
    intro k hk β σ H ex σ' H' a w Q he hs hn hd hr hQ
    simp only [cCode] at hk
    split at hk
    case h_2 => simp at hk
    rename_i kx kt ke h1 h2 h3
    simp at hk; subst hk
    simp only [evalC] at he
    split at he
    case h_2 => simp at he
    rename_i b hb
    have hxb := cOpd_rel hs h1
    rw [hb] at hxb
    refine wp_cond (t := b) (rel_bool hxb) ?_
    cases b
    · exact ihe ke h3 β σ H ex σ' H' a w Q (by simpa using he) hs hn hd hr hQ
    · exact iht kt h2 β σ H ex σ' H' a w Q (by simpa using he) hs hn hd hr hQ
  | block id c ih =>
    intro k hk β σ H ex σ' H' a w Q he hs hn hd hr hQ
    simp only [cCode, Option.map_eq_some_iff] at hk
    obtain ⟨kc, h1, rfl⟩ := hk
    simp only [evalC] at he
    refine wp_block ?_
    cases hx : evalC call fuel kc (σ, H) with
    | none => rw [hx] at he; simp at he
    | some r =>
      obtain ⟨e1, σ1, H1⟩ := r
      rw [hx] at he
      refine ih kc h1 β σ H e1 σ1 H1 a w _ hx hs hn hd hr fun β1 a1 w1 hs1 hn1 hd1 hg1 => ?_
      cases e1 with
      | norm =>
        simp only [Option.some.injEq, Prod.mk.injEq] at he
        obtain ⟨rfl, rfl, rfl⟩ := he
        exact hQ β1 a1 w1 hs1 hn1 hd1 hg1
      | exit j =>
        simp only at he
        by_cases hj : j = id
        · rw [if_pos hj] at he
          simp only [Option.some.injEq, Prod.mk.injEq] at he
          obtain ⟨rfl, rfl, rfl⟩ := he
          simp only [Ex.toExit, Exit.inBlock, hj, if_true]
          exact hQ β1 a1 w1 hs1 hn1 hd1 hg1
        · rw [if_neg hj] at he
          simp only [Option.some.injEq, Prod.mk.injEq] at he
          obtain ⟨rfl, rfl, rfl⟩ := he
          simp only [Ex.toExit, Exit.inBlock, hj, if_false]
          exact hQ β1 a1 w1 hs1 hn1 hd1 hg1
      | ret =>
        simp only [Option.some.injEq, Prod.mk.injEq] at he
        obtain ⟨rfl, rfl, rfl⟩ := he
        exact hQ β1 a1 w1 hs1 hn1 hd1 hg1
  | loop c ih =>
    intro k hk β σ H ex σ' H' a w Q he hs hn hd hr hQ
    simp only [cCode, Option.map_eq_some_iff] at hk
    obtain ⟨kc, h1, rfl⟩ := hk
    simp only [evalC] at he
    have key : ∀ (m : Nat) (β : Beta) (σ : Sl) (H : AHeap) (a : Act) (w : World), iter (evalC call fuel kc) m (σ, H) = some (ex, (σ', H')) → SR β σ a → a.tmps.size = n → a.defers = [] → HR B0 β H w →
        (∀ β' a' w', SR β' σ' a' → a'.tmps.size = n → a'.defers = [] → Go_ B0 β H w β' H' w' → Q ex.toExit a' w') → Code.rounds P c Q m a w := by
      intro m
      induction m with
      | zero => intro β σ H a w he; simp [iter] at he
      | succ m ihm =>
        intro β σ H a w he hs hn hd hr hQ
        simp only [iter] at he
        rw [rounds_succ]
        cases hx : evalC call fuel kc (σ, H) with
        | none => rw [hx] at he; simp at he
        | some r =>
          obtain ⟨e1, σ1, H1⟩ := r
          rw [hx] at he
          refine ih kc h1 β σ H e1 σ1 H1 a w _ hx hs hn hd hr fun β1 a1 w1 hs1 hn1 hd1 hg1 => ?_
          cases e1 with
          | norm =>
            simp only at he
            exact ihm β1 σ1 H1 a1 w1 he hs1 hn1 hd1 hg1.hr fun β' a' w' h3 h4 h5 h6 => hQ β' a' w' h3 h4 h5 (hg1.trans h6)
          | exit id =>
            simp only [Option.some.injEq, Prod.mk.injEq] at he
            obtain ⟨rfl, rfl, rfl⟩ := he
            exact hQ β1 a1 w1 hs1 hn1 hd1 hg1
          | ret =>
            simp only [Option.some.injEq, Prod.mk.injEq] at he
            obtain ⟨rfl, rfl, rfl⟩ := he
            exact hQ β1 a1 w1 hs1 hn1 hd1 hg1
    exact wp_loop_rounds fuel (key fuel β σ H a w he hs hn hd hr hQ)
  | exit id =>
    intro k hk β σ H ex σ' H' a w Q he hs hn hd hr hQ
    simp [cCode] at hk; subst hk
    simp only [evalC, Option.some.injEq, Prod.mk.injEq] at he
    obtain ⟨rfl, rfl, rfl⟩ := he
    exact wp_exit (hQ β a w hs hn hd (.refl hr))
  | ret =>
    intro k hk β σ H ex σ' H' a w Q he hs hn hd hr hQ
    simp [cCode] at hk; subst hk
    simp only [evalC, Option.some.injEq, Prod.mk.injEq] at he
    obtain ⟨rfl, rfl, rfl⟩ := he
    exact wp_ret (hQ β a w hs hn hd (.refl hr))
  | _ =>
    intro k hk
    simp [cCode] at hk

/-! ### Results -/
theorem res_sound {β : Beta} {σ : Sl} {H : AHeap} {a : Act} {w : World} (hs : SR β σ a) (hr : HR B0 β H w) (F : ResultVar → Sem Value) (hF1 : ∀ t, F (.tmp t) = pure (a.tmps.getD t Go.undef)) (hF2 : ∀ ad t, F (.cell ad t) = do loadVar t (← asAddr (a.tmps.getD ad Go.undef))) : ∀ {rs : List ResultVar} {ks : List KR} {vs : List V0}, cRes P rs = some ks → evalRs σ H ks = some vs →
    ∃ xs : List Value, (rs.mapM F).run P w = .ok xs w ∧ vs.length = xs.length ∧ ∀ (j : Nat) (v : V0), vs[j]? = some v → ∃ y, xs[j]? = some y ∧ v.rel β y
  | [], ks, vs, h1, h2 => by
    simp [cRes] at h1; subst h1
    simp [evalRs] at h2; subst h2
    exact ⟨[], rfl, rfl, fun j v h => by simp at h⟩
  | .tmp t :: rs, ks, vs, h1, h2 => by
    simp only [cRes, Option.map_eq_some_iff] at h1
    obtain ⟨ks', h1, rfl⟩ := h1
    simp only [evalRs] at h2
    split at h2
    case h_2 => simp at h2
    rename_i v l hv hl
    simp at h2; subst h2
    obtain ⟨xs, h3, h4, h5⟩ := res_sound hs hr F hF1 hF2 h1 hl
    refine ⟨a.tmps.getD t Go.undef :: xs, by simp only [List.mapM_cons, hF1, Sem.run_bind, Sem.run_pure, Result.andThen_ok, h3], by simp [h4], fun j u hj => ?_⟩
    cases j with
    | zero =>
      simp at hj; subst hj
      refine ⟨_, rfl, ?_⟩
      have := hs.at_ t
      simp only [evalR] at hv
      cases hσ : σ t with
      | c c => rw [hσ] at hv this; simp [AV.toV0?] at hv; subst hv; exact this
      | agg cs => rw [hσ] at hv this; simp [AV.toV0?] at hv; subst hv; exact this
      | tup vs => rw [hσ] at hv; simp [AV.toV0?] at hv
    | succ j => exact h5 j u (by simpa using hj)
  | .cell t ty :: rs, ks, vs, h1, h2 => by
    simp only [cRes] at h1
    split at h1
    · rename_i n l hg hn hl0
      simp at h1; subst h1
      simp only [evalRs] at h2
      split at h2
      case h_2 => simp at h2
      rename_i v l' hv hl
      simp at h2; subst h2
      obtain ⟨xs, h3, h4, h5⟩ := res_sound hs hr F hF1 hF2 hl0 hl
      simp only [evalR] at hv
      split at hv
      case h_2 => simp at hv
      rename_i p hp
      simp only [Option.map_eq_some_iff] at hv
      obtain ⟨cs, hcs, rfl⟩ := hv
      have ht := hs.at_ t
      rw [hp] at ht
      obtain ⟨ad, ha, e⟩ := rel_ptr ht
      obtain ⟨ys, h6, h7, h8⟩ := hr.loadCells (P := P) hcs ha
      refine ⟨.agg ys.toArray :: xs, by simp only [List.mapM_cons, hF2, e, asAddr, loadVar, Sem.run_bind, Sem.run_pure, Result.andThen_ok, run_isAgg hg, if_true, run_size hn, h7, h3], by simp [h4], fun j u hj => ?_⟩
      cases j with
      | zero => simp at hj; subst hj; exact ⟨_, rfl, ys, rfl, h8⟩
      | succ j => exact h5 j u (by simpa using hj)
    · rename_i l hg hn hl0
      simp at h1; subst h1
      simp only [evalRs] at h2
      split at h2
      case h_2 => simp at h2
      rename_i v l' hv hl
      simp at h2; subst h2
      obtain ⟨xs, h3, h4, h5⟩ := res_sound hs hr F hF1 hF2 hl0 hl
      simp only [evalR] at hv
      split at hv
      case h_2 => simp at hv
      rename_i p hp
      simp only [Option.map_eq_some_iff] at hv
      obtain ⟨c, hc, rfl⟩ := hv
      have ht := hs.at_ t
      rw [hp] at ht
      obtain ⟨ad, ha, e⟩ := rel_ptr ht
      obtain ⟨y, h6, h7⟩ := hr.readCell hc ha
      refine ⟨y :: xs, by simp only [List.mapM_cons, hF2, e, asAddr, loadVar, Sem.run_bind, Sem.run_pure, Result.andThen_ok, run_isAgg hg, Bool.false_eq_true, if_false, run_load, h6, h3], by simp [h4], fun j u hj => ?_⟩
      cases j with
      | zero => simp at hj; subst hj; exact ⟨_, rfl, h7⟩
      | succ j => exact h5 j u (by simpa using hj)
    · simp at h1

theorem mkRes_rel {β : Beta} {vs : List V0} {xs : List Value} (hl : vs.length = xs.length) (h : ∀ (j : Nat) (v : V0), vs[j]? = some v → ∃ y, xs[j]? = some y ∧ v.rel β y) :
    (mkRes vs).rel β (if h : xs.toArray.size = 1 then xs.toArray[0] else .tuple xs.toArray) := by
  match vs, xs, hl, h with
  | [v], [x], _, h =>
    obtain ⟨y, h1, h2⟩ := h 0 v rfl
    simp at h1; subst h1
    simp only [mkRes]
    cases v <;> exact h2
  | [], xs, hl, h =>
    have : xs = [] := by simpa using hl.symm
    subst this
    exact ⟨[], by simp, rfl, h⟩
  | v :: u :: vs, xs, hl, h =>
    have : ¬ xs.toArray.size = 1 := by simp at hl ⊢; omega
    rw [dif_neg this]
    exact ⟨xs, rfl, hl, h⟩

/-! ### Dropping what is new -/
theorem finish_sound {β β' : Beta} {H H1 H' : AHeap} {w w' : World} {gc : Bool} {v v' : AV} {x : Value} (hr : HR B0 β H w) (hg : Go_ B0 β H w β' H1 w') (hv : v.rel β' x) (h : finish gc H v H1 = some (v', H')) : ∃ β'', v'.rel β'' x ∧ Go_ B0 β H w β'' H' w' := by
  unfold finish at h
  split at h
  case isFalse => simp at h; obtain ⟨rfl, rfl⟩ := h; exact ⟨β', hv, hg⟩
  split at h
  case isFalse => simp at h
  rename_i hcond
  simp at h; obtain ⟨rfl, rfl⟩ := h
  obtain ⟨hp, hcond⟩ := hcond
  refine ⟨β, AV.plain_rel hp hv, ?_⟩
  have hle : H.length ≤ H1.length := by rw [← hr.len, ← hg.hr.len]; exact hg.ext.len
  have hget : ∀ (i : Nat) (blk : Blk), (H1.take H.length)[i]? = some (some blk) → i < H.length ∧ H1[i]? = some (some blk) := by
    intro i blk hi
    have hlt : i < H.length := by
      have := (List.getElem?_eq_some_iff.1 hi).1
      simp at this; omega
    rw [List.getElem?_take_of_lt hlt] at hi
    exact ⟨hlt, hi⟩
  -- the cells of what is kept lead to old blocks alone
  have hback : ∀ (i : Nat) (blk : Blk), i < H.length → H1[i]? = some (some blk) → ∀ c ∈ blk.cells, ∀ y, c.rel β' y → c.rel β y := by
    intro i blk hlt hi c hcm y hcy
    rcases hcond i blk hlt hi with hold | hval
    · -- it was there: its ids are told by β
      obtain ⟨j, hj⟩ := List.getElem?_of_mem hcm
      have hex : ∃ y0, c.rel β y0 := by
        rcases hr.blk i blk hold with ⟨_, ⟨b, o, k, _, _, h3⟩⟩ | ⟨_, ⟨b, xs, _, _, _, h4, _⟩⟩
        · obtain ⟨y0, _, h5⟩ := h3 j c hj; exact ⟨y0, h5⟩
        · obtain ⟨y0, _, h5⟩ := h4.2 j c hj; exact ⟨y0, h5⟩
      obtain ⟨y0, h0⟩ := hex
      refine CV.valid_rel hg.ext ?_ hcy
      have hid : ∀ (p : Nat × Nat) (ad : Addr), AddrRel β p ad → p.1 < β.length := fun p ad ⟨b, o, k, h1, _⟩ => (List.getElem?_eq_some_iff.1 h1).1
      cases c with
      | ptr q => cases q with
        | none => rfl
        | some p => obtain ⟨ad, h1, _⟩ := h0; simpa [CV.validIn] using hid p ad h1
      | slice q l cap => cases q with
        | none => rfl
        | some p =>
          obtain ⟨ad, cc, h1, _⟩ := h0
          simp only [CV.validIn, Bool.or_eq_true, Bool.not_eq_true', decide_eq_true_eq]
          cases hna : needsAddr l cap with
          | false => exact .inl rfl
          | true => exact .inr (hid p ad (h1 hna))
      | fn f caps =>
        obtain ⟨cs, _, _, h3⟩ := h0
        simp only [CV.validIn, List.all_eq_true, decide_eq_true_eq]
        intro p hp
        obtain ⟨j', hj'⟩ := List.getElem?_of_mem hp
        obtain ⟨ad, h4, _⟩ := h3 j' p hj'
        exact hid p ad h4
      | _ => rfl
    · refine CV.valid_rel hg.ext ?_ hcy
      rw [hr.len]
      exact List.all_eq_true.1 hval c hcm
  have hβ : ∀ (i : Nat), i < H.length → β'[i]? = β[i]? := fun i hi => hg.ext.get_lt (by rw [hr.len]; exact hi)
  refine ⟨⟨by rw [List.length_take, Nat.min_eq_left hle]; exact hr.len, hg.hr.base, fun i blk hi => ?_, ?_, hg.hr.gi⟩, .refl _, hg.below, hg.fr, ?_⟩
  · obtain ⟨hlt, hi'⟩ := hget i blk hi
    have hb := hback i blk hlt hi'
    rcases hg.hr.blk i blk hi' with ⟨hm, ⟨b, o, k, h1, h2, h3⟩⟩ | ⟨hm, ⟨b, xs, h1, h2, h3, h4, h5⟩⟩
    · refine .inl ⟨hm, ⟨b, o, k, by rw [← hβ i hlt]; exact h1, h2, fun j c hc => ?_⟩⟩
      obtain ⟨y, h4, h5⟩ := h3 j c hc
      exact ⟨y, h4, hb c (List.mem_of_getElem? hc) y h5⟩
    · refine .inr ⟨hm, ⟨b, xs, by rw [← hβ i hlt]; exact h1, h2, h3, ⟨h4.1, fun j c hc => ?_⟩, h5⟩⟩
      obtain ⟨y, h6, h7⟩ := h4.2 j c hc
      exact ⟨y, h6, hb c (List.mem_of_getElem? hc) y h7⟩
  · intro i j bi bj b oi oj ki kj hi hj hmi hmj hbi hbj
    obtain ⟨hli, hi'⟩ := hget i bi hi
    obtain ⟨hlj, hj'⟩ := hget j bj hj
    exact hg.hr.inj i j bi bj b oi oj ki kj hi' hj' hmi hmj (by rw [hβ i hli]; exact hbi) (by rw [hβ j hlj]; exact hbj)
  · rintro b hb ⟨i, blk, o, hi, hm, k, hbk⟩
    obtain ⟨hlt, hi'⟩ := hget i blk hi
    exact hg.sub b hb ⟨i, blk, o, hi', hm, k, by rw [hβ i hlt]; exact hbk⟩

/-! ### Functions -/
theorem body_sound (hc : CallOk P call) (hdr : ∀ n, DrawnOk P call n) {gc : Bool} {f : FuncId} {kf : KF} (hk : cFunc P gc f = some kf) {fuel : Nat} {args : List AV} {H H' : AHeap} {r : AV} (he : evalBody call fuel kf args H = some (r, H')) {β : Beta} {w : World} {xs : List Value} (hr : HR B0 β H w) (hv : Vals β args xs) :
    ∃ fn, P.funcs[f]? = some fn ∧ (fn.name == "runtime.NumGoroutine") = false ∧ fn.body.isNone = false ∧
      Calls P f xs.toArray w (fun e w' => ∃ β' x, e = .returned x ∧ r.rel β' x ∧ Go_ B0 β H w β' H' w') := by
  unfold cFunc at hk
  split at hk
  case h_2 => simp at hk
  rename_i fn hfn
  split at hk
  · simp at hk
  rename_i hname
  split at hk
  case h_2 => simp at hk
  rename_i c hbody
  split at hk
  case h_2 => simp at hk
  rename_i kc kr hkc hkr
  simp at hk; subst hk
  refine ⟨fn, hfn, by simpa using hname, by simp [hbody], ?_⟩
  unfold evalBody at he
  split at he
  case isFalse => simp at he
  rename_i hlen
  simp only at hlen he
  -- the frame at the begin
  have hs0 : SR β (fun i => args.getD i (.c .undef)) { tmps := xs.toArray ++ Array.replicate (fn.ntmps - xs.toArray.size) Go.undef, defers := [] } := by
    refine ⟨fun i => ?_⟩
    simp only [Array.getD_eq_getD_getElem?, List.getD_eq_getElem?_getD]
    by_cases hi : i < args.length
    · obtain ⟨x, h1, h2⟩ := hv.2 i _ (List.getElem?_eq_getElem hi)
      rw [List.getElem?_eq_getElem hi]
      have hx : i < xs.length := (List.getElem?_eq_some_iff.1 h1).1
      rw [Array.getElem?_append_left (by simpa using hx)]
      simp only [List.getElem?_toArray, h1, Option.getD_some]
      exact h2
    · rw [List.getElem?_eq_none (by omega)]
      rw [Array.getElem?_append_right (by simp; rw [← hv.1]; omega)]
      simp only [Option.getD_none, Array.getElem?_replicate]
      split <;> rfl
  have hn0 : ({ tmps := xs.toArray ++ Array.replicate (fn.ntmps - xs.toArray.size) Go.undef, defers := [] } : Act).tmps.size = fn.ntmps := by
    simp; rw [← hv.1]; omega
  have fin : ∀ (ex : Ex) (σ' : Sl) (H1 : AHeap) (vs : List V0), (ex = .norm ∨ ex = .ret) → evalC call fuel kc ((fun i => args.getD i (.c .undef)), H) = some (ex, (σ', H1)) → evalRs σ' H1 kr = some vs → finish gc H (mkRes vs) H1 = some (r, H') →
      Calls P f xs.toArray w (fun e w' => ∃ β' x, e = .returned x ∧ r.rel β' x ∧ Go_ B0 β H w β' H' w') := by
    intro ex σ' H1 vs hex hev hrs hfin
    refine calls_of_wp hfn hbody ?_
    refine code_sound hc (hdr _) fuel c kc hkc β _ H ex σ' H1 _ w _ hev hs0 hn0 rfl hr fun β' a' w' h3 h4 h5 h6 => ?_
    obtain ⟨ys, h7, h8, h9⟩ := res_sound (P := P) h3 h6.hr (fun | .tmp t => pure (a'.tmps.getD t Go.undef) | .cell ad t => do loadVar t (← asAddr (a'.tmps.getD ad Go.undef))) (fun _ => rfl) (fun _ _ => rfl) hkr hrs
    have hres : (results fn a'.tmps).run P w' = .ok (if h : ys.toArray.size = 1 then ys.toArray[0] else .tuple ys.toArray) w' := by
      unfold results
      simp only [Sem.run_bind]
      have := run_mapM_array (P := P) (w := w') _ fn.results ys h7
      erw [this]
      simp only [Result.andThen_ok, Sem.run_pure]
    obtain ⟨β'', h10, h11⟩ := finish_sound hr h6 (mkRes_rel h8 h9) hfin
    rcases hex with rfl | rfl
    · exact ⟨h5, _, hres, β'', _, rfl, h10, h11⟩
    · exact ⟨h5, _, hres, β'', _, rfl, h10, h11⟩
  split at he
  · rename_i σ' H1 hev
    split at he
    case h_2 => simp at he
    rename_i vs hvs
    exact fin .norm σ' H1 vs (.inl rfl) hev hvs he
  · rename_i σ' H1 hev
    split at he
    case h_2 => simp at he
    rename_i vs hvs
    exact fin .ret σ' H1 vs (.inr rfl) hev hvs he
  · simp at he

/-- A function's answer is such as this tells. -/
def NatOk (P : Program) (f : FuncId) (np : Nat) (φ : List AV → AHeap → Option (List V0 × AHeap)) : Prop :=
  ∀ (args : List AV) (H : AHeap) (vs : List V0) (H' : AHeap), args.length = np → φ args H = some (vs, H') → ∀ (B0 : Nat) (β : Beta) (w : World) (xs : List Value), HR B0 β H w → Vals β args xs →
    ∃ fn, P.funcs[f]? = some fn ∧ (fn.name == "runtime.NumGoroutine") = false ∧ fn.body.isNone = false ∧
      Calls P f xs.toArray w (fun e w' => ∃ β' x, e = .returned x ∧ (mkRes vs).rel β' x ∧ Go_ B0 β H w β' H' w')
/-- A function's text is compiled, or it is told by its answer. -/
def KfOk (P : Program) (f : FuncId) (kf : KF) : Prop := (∃ gc, cFunc P gc f = some kf) ∨ ∃ np n φ, kf = kNat np n φ ∧ NatOk P f np φ
theorem evalF_soundN {K : FuncId → Option KF} (hK : ∀ f kf, K f = some kf → KfOk P f kf) (hdr : ∀ call, CallOk P call → ∀ n, DrawnOk P call n) : ∀ fuel, CallOk P (evalF K fuel) := by
  intro fuel
  induction fuel with
  | zero => intro f args H r H' h; simp [evalF] at h
  | succ fuel ih =>
    intro f args H r H' h B0 β w xs hr hv
    simp only [evalF] at h
    split at h
    case h_2 => simp at h
    rename_i kf hkf
    rcases hK f kf hkf with ⟨gc, hgc⟩ | ⟨np, n, φ, rfl, hn⟩
    · exact body_sound ih (hdr _ ih) hgc h hr hv
    · obtain ⟨ha, hd, vs, h1, h2, rfl⟩ := body_nat.1 h
      exact hn args H vs H' ha h1 B0 β w xs hr hv
theorem evalF_sound {K : FuncId → Option KF} (hK : ∀ f kf, K f = some kf → ∃ gc, cFunc P gc f = some kf) (hdr : ∀ call, CallOk P call → ∀ n, DrawnOk P call n) : ∀ fuel, CallOk P (evalF K fuel) :=
  evalF_soundN (fun f kf h => .inl (hK f kf h)) hdr

end

end Go.Proofs.YtmockobmiagbcaaDoor.VI
