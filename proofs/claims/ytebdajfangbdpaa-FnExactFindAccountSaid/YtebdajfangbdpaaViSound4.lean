/- An interpreter over an abstract heap, and its soundness over the machine: part Sound4. -/
import Derived.Test.YtebdajfangbdpaaViSound3
import Derived.Laws.Append
import Derived.Laws.BytesString
set_option linter.unusedVariables false
set_option linter.unusedSimpArgs false
set_option linter.unusedSectionVars false
namespace Go.Proofs.Ytebdajfangbdpaa.VI
open Go Go.RowKit

section
variable {P : Program} {call : CallA} {B0 : Nat} {β : Beta} {H H' : AHeap} {σ : Sl} {a : Act} {w : World} {v : AV} {dst : Option Tmp} {type : TypeId} {pos : String} {after : Array Edge} {g : Option (Nat × Bool)}

theorem capsA_rel (hs : SR β σ a) : ∀ {xs : List Operand} {ys : List Opd} {l : List (Nat × Nat)}, cOpds xs = some ys → capsA σ ys = some l →
    l.length = xs.length ∧ ∀ (j : Nat) (p : Nat × Nat), l[j]? = some p → ∃ ad : Addr, AddrRel β p ad ∧ (xs.map a.eval)[j]? = some (Value.pointer (some ad))
  | [], ys, l, h1, h2 => by
    simp [cOpds] at h1; subst h1
    simp [capsA] at h2; subst h2
    exact ⟨rfl, fun j p h => by simp at h⟩
  | x :: xs, ys, l, h1, h2 => by
    simp only [cOpds] at h1
    split at h1
    case h_2 => simp at h1
    rename_i y ys' hy hys
    simp at h1; subst h1
    simp only [capsA] at h2
    split at h2
    case h_2 => simp at h2
    rename_i p l' hp hl
    simp at h2; subst h2
    have ih := capsA_rel hs hys hl
    refine ⟨by simp [ih.1], fun j q hq => ?_⟩
    cases j with
    | zero =>
      simp at hq; subst hq
      have := cOpd_rel hs hy
      rw [hp] at this
      obtain ⟨ad, h1, h2⟩ := rel_ptr this
      exact ⟨ad, h1, by simp [h2]⟩
    | succ j => exact ih.2 j q (by simpa using hq)

theorem ok_mkFn (hs : SR β σ a) (hr : HR B0 β H w) {f : FuncId} {first captured : Array Operand} {caps : List Opd} (hf : first.isEmpty = true) (hc : cOpds captured.toList = some caps) {l : List (Nat × Nat)} (hl : capsA σ caps = some l) :
    OpOk P ⟨dst, .makeFunc (.func f) first captured, type, pos, after, g⟩ a B0 β H w (.c (.fn f l)) H := by
  obtain ⟨h1, h2⟩ := capsA_rel hs hc hl
  have hf : first = #[] := by simpa using hf
  subst hf
  exact .same hr (x := .func (.func f) #[] (captured.toList.map a.eval).toArray) (by simp only [execOp, Instr.makeFunc, Array.map_empty, Sem.run_bind, Sem.run_pure, Result.andThen_ok]; rw [← Array.toList_map, Array.toArray_toList]) ⟨_, rfl, by simp [h1], h2⟩

theorem ok_builtin {o : Oper} {b : Builtin} {args : Array Operand} {ats : Array TypeId} {x : Value} {w' : World} (ho : o.op = .call ⟨.builtin b, args, ats⟩)
    (h : (builtin b ats o.type (args.map fun | .const _ => true | _ => false) (args.map a.eval)).run P w = .ok (.value x) w') : (execOp a.eval o).run P w = .ok (.value x) w' := by
  obtain ⟨dst, op, type, pos, after, g⟩ := o
  simp only at ho; subst ho
  simp only [execOp, resolve, Sem.run_bind, Sem.run_pure, Result.andThen_ok, invoke]
  exact h

theorem ok_lenS (hs : SR β σ a) (hr : HR B0 β H w) {t e : TypeId} {args : Array Operand} {ats : Array TypeId} {x : Operand} {x' : Opd} (hat : ats[0]? = some t) (ha : args[0]? = some x) (hu : P.underlying t = some (.slice e)) (hx : cOpd x = some x') {p : Option (Nat × Nat)} {l : Nat} {c : Cap} (hv : x'.ev σ = .c (.slice p l c)) :
    OpOk P ⟨dst, .call ⟨.builtin .len, args, ats⟩, type, pos, after, g⟩ a B0 β H w (.c (.int .i64 l)) H := by
  have rx := cOpd_rel hs hx; rw [hv] at rx
  refine .same hr (x := .int .i64 l) (ok_builtin rfl ?_) rfl
  have hx' : (args.map a.eval)[0]? = some (a.eval x) := by simp [ha]
  have : ∃ b cc, a.eval x = .slice b l cc := by
    cases p with
    | none => obtain ⟨rfl, e⟩ := rx; exact ⟨_, _, e⟩
    | some p => obtain ⟨ad, cc, _, _, e, _⟩ := rx; exact ⟨_, _, e⟩
  obtain ⟨b, cc, hxe⟩ := this
  simp [builtin, Builtin.len_, hat, hx', run_underlying hu, hxe, goInt]
theorem ok_lenStr (hs : SR β σ a) (hr : HR B0 β H w) {t : TypeId} {args : Array Operand} {ats : Array TypeId} {x : Operand} {x' : Opd} (hat : ats[0]? = some t) (ha : args[0]? = some x) (hu : P.underlying t = some .string) (hx : cOpd x = some x') {s : ByteArray} (hv : x'.ev σ = .c (.str s)) :
    OpOk P ⟨dst, .call ⟨.builtin .len, args, ats⟩, type, pos, after, g⟩ a B0 β H w (.c (.int .i64 s.size)) H := by
  have rx := cOpd_rel hs hx; rw [hv] at rx
  have e := rel_str rx
  refine .same hr (x := .int .i64 s.size) (ok_builtin rfl ?_) rfl
  have hx' : (args.map a.eval)[0]? = some (a.eval x) := by simp [ha]
  simp [builtin, Builtin.len_, hat, hx', run_underlying hu, e, goInt]
theorem ok_lenA (hs : SR β σ a) (hr : HR B0 β H w) {t e : TypeId} {n : Nat} {args : Array Operand} {ats : Array TypeId} {x : Operand} {x' : Opd} (hat : ats[0]? = some t) (ha : args[0]? = some x) (hu : P.underlying t = some (.array n e)) (_hx : cOpd x = some x') :
    OpOk P ⟨dst, .call ⟨.builtin .len, args, ats⟩, type, pos, after, g⟩ a B0 β H w (.c (.int .i64 n)) H := by
  have _ := hs
  refine .same hr (x := .int .i64 n) (ok_builtin rfl ?_) rfl
  have hx' : (args.map a.eval)[0]? = some (a.eval x) := by simp [ha]
  simp [builtin, Builtin.len_, hat, hx', run_underlying hu, goInt]

/-! ### min, max -/
theorem run_min2 {k : IntKind} : ∀ (r : List AV) (xs : List Value) (n m : Int), Vals β r xs → minL n r k = some m → (xs.foldlM Builtin.min2 (.int k n)).run P w = .ok (.int k m) w
  | [], xs, n, m, hv, h => by
    have := hv.1
    have hx : xs = [] := by simpa using this.symm
    subst hx
    simp [minL] at h; subst h
    simp
  | v :: r, xs, n, m, hv, h => by
    obtain ⟨x, xs', rfl, h1, h2⟩ := hv.cons_inv
    unfold minL at h
    split at h
    · rename_i e; cases e
    · rename_i k' n' r' _ e
      simp only [List.cons.injEq] at e
      obtain ⟨e1, e2⟩ := e
      subst e1; subst e2
      split at h
      · rename_i hk; subst hk
        have hx := rel_int h1
        simp only [List.foldlM_cons, Sem.run_bind, hx, Builtin.min2, Sem.run_pure, Result.andThen_ok]
        exact run_min2 _ xs' _ m h2 h
      · simp at h
    · simp at h
theorem run_max2 {k : IntKind} : ∀ (r : List AV) (xs : List Value) (n m : Int), Vals β r xs → maxL n r k = some m → (xs.foldlM Builtin.max2 (.int k n)).run P w = .ok (.int k m) w
  | [], xs, n, m, hv, h => by
    have := hv.1
    have hx : xs = [] := by simpa using this.symm
    subst hx
    simp [maxL] at h; subst h
    simp
  | v :: r, xs, n, m, hv, h => by
    obtain ⟨x, xs', rfl, h1, h2⟩ := hv.cons_inv
    unfold maxL at h
    split at h
    · rename_i e; cases e
    · rename_i k' n' r' _ e
      simp only [List.cons.injEq] at e
      obtain ⟨e1, e2⟩ := e
      subst e1; subst e2
      split at h
      · rename_i hk; subst hk
        have hx := rel_int h1
        simp only [List.foldlM_cons, Sem.run_bind, hx, Builtin.max2, Sem.run_pure, Result.andThen_ok]
        exact run_max2 _ xs' _ m h2 h
      · simp at h
    · simp at h
theorem ok_min (hs : SR β σ a) (hr : HR B0 β H w) {args : Array Operand} {ats : Array TypeId} {xs : List Opd} (hx : cOpds args.toList = some xs) {k : IntKind} {n m : Int} {r : List AV} (h1 : xs.map (Opd.ev σ) = .c (.int k n) :: r) (h2 : minL n r k = some m) :
    OpOk P ⟨dst, .call ⟨.builtin .min, args, ats⟩, type, pos, after, g⟩ a B0 β H w (.c (.int k m)) H := by
  have hv := cOpds_rel hs hx
  rw [h1] at hv
  obtain ⟨x, xs', e, h3, h4⟩ := hv.cons_inv
  refine .same hr (x := .int k m) (ok_builtin rfl ?_) rfl
  have e' : args.toList.map a.eval = .int k n :: xs' := by rw [e, rel_int h3]
  simp [builtin, Builtin.min_, e', run_min2 r xs' n m h4 h2]
theorem ok_max (hs : SR β σ a) (hr : HR B0 β H w) {args : Array Operand} {ats : Array TypeId} {xs : List Opd} (hx : cOpds args.toList = some xs) {k : IntKind} {n m : Int} {r : List AV} (h1 : xs.map (Opd.ev σ) = .c (.int k n) :: r) (h2 : maxL n r k = some m) :
    OpOk P ⟨dst, .call ⟨.builtin .max, args, ats⟩, type, pos, after, g⟩ a B0 β H w (.c (.int k m)) H := by
  have hv := cOpds_rel hs hx
  rw [h1] at hv
  obtain ⟨x, xs', e, h3, h4⟩ := hv.cons_inv
  refine .same hr (x := .int k m) (ok_builtin rfl ?_) rfl
  have e' : args.toList.map a.eval = .int k n :: xs' := by rw [e, rel_int h3]
  simp [builtin, Builtin.max_, e', run_max2 r xs' n m h4 h2]

/-! ### Bytes to a string -/
theorem bytes_rel : ∀ {cs : List CV} {bs : List UInt8} {xs : List Value}, Cells β cs xs → bytesOfCells cs = some bs → ∃ ns : List Int, xs = ns.map (Value.int .u8) ∧ bs = ns.map fun n => UInt8.ofNat n.toNat
  | [], bs, xs, hc, h => by
    have := hc.nil_inv; subst this
    simp [bytesOfCells] at h; subst h
    exact ⟨[], rfl, rfl⟩
  | c :: cs, bs, xs, hc, h => by
    obtain ⟨x, xs', rfl, h1, h2⟩ := hc.cons_inv
    unfold bytesOfCells at h
    split at h
    · rename_i e; cases e
    · rename_i n rest e
      simp only [List.cons.injEq] at e
      obtain ⟨e1, e2⟩ := e
      subst e1; subst e2
      simp only [Option.map_eq_some_iff] at h
      obtain ⟨bs', h3, rfl⟩ := h
      obtain ⟨ns, rfl, rfl⟩ := bytes_rel h2 h3
      have hx : x = .int .u8 n := h1
      exact ⟨n :: ns, by simp [hx], rfl⟩
    · simp at h
theorem push_all : ∀ (ns : List Int) (s : ByteArray), ns.foldl (fun r n => r.push (UInt8.ofNat n.toNat)) s = ⟨s.data ++ (ns.map fun n => UInt8.ofNat n.toNat).toArray⟩
  | [], s => by simp
  | n :: ns, s => by
    rw [List.foldl_cons, push_all ns]
    congr 1
    simp [ByteArray.push]
theorem ok_convBS (hs : SR β σ a) (hr : HR B0 β H w) {src d e : TypeId} {x : Operand} {x' : Opd} (h1 : P.underlying src = some (.slice e)) (h2 : P.underlying d = some .string) (h3 : P.underlying e = some (.int .u8)) (hx : cOpd x = some x')
    (hv : (∃ l c, x'.ev σ = .c (.slice none l c) ∧ v = .c (.str .empty)) ∨ (∃ p l c, x'.ev σ = .c (.slice (some p) l c) ∧ ((l = 0 ∧ v = .c (.str .empty)) ∨ (l ≠ 0 ∧ ∃ cs bs, readCells H p l = some cs ∧ bytesOfCells cs = some bs ∧ v = .c (.str ⟨bs.toArray⟩))))) :
    OpOk P ⟨dst, .convert src d x, type, pos, after, g⟩ a B0 β H w v H := by
  have rx := cOpd_rel hs hx
  have hcv : ∀ b l c, (convert src d (.slice b l c)).run P w = (Conv.bytesToString (.slice b l c)).run P w := fun b l c => by simp [convert, run_underlying h1, run_underlying h2, run_underlying h3]
  rcases hv with ⟨l, c, hv, rfl⟩ | ⟨p, l, c, hv, hv2⟩
  · rw [hv] at rx
    obtain ⟨_, e⟩ := rx
    refine .same hr (x := .string .empty) ?_ rfl
    simp [execOp, e, hcv, Conv.bytesToString]
  · rw [hv] at rx
    obtain ⟨ad, cc, ha, _, e, _⟩ := rx
    rcases hv2 with ⟨rfl, rfl⟩ | ⟨hl, cs, bs, hc, hb, rfl⟩
    · refine .same hr (x := .string .empty) ?_ rfl
      have := run_bytesToString (P := P) w ad 0 cc [] (by simp [loadCells, loadCellsFrom])
      simp [execOp, e, hcv, this]
    · have had := ha (by cases c <;> simp [needsAddr] <;> omega)
      obtain ⟨xs, hlen, hrun, hcs⟩ := hr.loadCells (P := P) hc had
      obtain ⟨ns, rfl, rfl⟩ := bytes_rel hcs hb
      have := run_bytesToString (P := P) w ad l cc ns hrun
      rw [push_all] at this
      have he : (ByteArray.empty.data ++ (ns.map fun n => UInt8.ofNat n.toNat).toArray) = (ns.map fun n => UInt8.ofNat n.toNat).toArray := by simp
      rw [he] at this
      refine .same hr (x := .string ⟨(ns.map fun n => UInt8.ofNat n.toNat).toArray⟩) ?_ (show _ = _ from rfl)
      simp [execOp, e, hcv, this]

/-! ### Append -/
theorem src_rel (hr : HR B0 β H w) {s n : Nat} {cs : List CV} {y : AV} {z : Value} (hy : y.rel β z) (h : srcCells H s y = some (n, cs)) :
    (∀ k, (Builtin.lenOf z).run P (w.drewN k) = .ok n (w.drewN k)) ∧ ∃ xs : List Value, (∀ k, (Builtin.firstCells s n z).run P (w.drewN k) = .ok xs.toArray (w.drewN k)) ∧ Cells β cs xs := by
  unfold srcCells at h
  split at h
  · simp at h; obtain ⟨rfl, rfl⟩ := h
    obtain ⟨h0, e⟩ := hy
    rw [e]
    exact ⟨fun k => by simp [Builtin.lenOf], [], fun k => by simp [Builtin.firstCells], Cells.nil β⟩
  · rename_i p l c
    obtain ⟨ad, cc, ha, _, e, _⟩ := hy
    rw [e]
    split at h
    · rename_i h0; subst h0
      simp at h; obtain ⟨rfl, rfl⟩ := h
      exact ⟨fun k => by simp [Builtin.lenOf], [], fun k => by simp [Builtin.firstCells, loadCells, loadCellsFrom], Cells.nil β⟩
    · rename_i h0
      simp only [Option.map_eq_some_iff] at h
      obtain ⟨cs', hc, e2⟩ := h
      simp at e2; obtain ⟨rfl, rfl⟩ := e2
      have had := ha (by cases c <;> simp [needsAddr] <;> omega)
      obtain ⟨xs, hlen, hrun, hcs⟩ := hr.loadCellsD (P := P) hc had
      exact ⟨fun k => by simp [Builtin.lenOf], xs, fun k => by simp [Builtin.firstCells, hrun], hcs⟩
  · rename_i b
    have e := rel_str hy
    split at h
    case isFalse => simp at h
    simp at h; obtain ⟨rfl, rfl⟩ := h
    rw [e]
    refine ⟨fun k => by simp [Builtin.lenOf], b.data.toList.map fun u => .int .u8 u.toNat, fun k => ?_, ?_⟩
    · have : b.extract 0 b.size = b := by simp
      simp only [Builtin.firstCells, this, Sem.run_pure]
      congr 1
      rw [← Array.toList_map, Array.toArray_toList]
    · refine ⟨by simp, fun j c hc => ?_⟩
      simp only [List.getElem?_map, Option.map_eq_some_iff] at hc ⊢
      obtain ⟨u, hu, rfl⟩ := hc
      exact ⟨_, ⟨u, hu, rfl⟩, rfl⟩
  · simp at h

/-- An append that fits. -/
theorem run_append_fits {s n : Nat} {t t2 e : TypeId} {i : TypeInfo} {ats : Array TypeId} {ty : TypeId} {base : Option Addr} {len cap : Nat} {z : Value} {xs : List Value} (h0 : ats[0]? = some t) (h1 : ats[1]? = some t2) (hu : P.underlying t = some (.slice e)) (hu2 : P.underlying t2 = some .string ∨ ∃ e2, P.underlying t2 = some (.slice e2)) (hi : P.info? e = some i) (hs : i.size = s)
    (hz1 : (Builtin.lenOf z).run P w = .ok n w) (hz2 : (Builtin.firstCells s n z).run P w = .ok xs.toArray w) (hle : len + n ≤ cap) {w' : World} (hst : (match base with | some ad => (storeCells (ad.add (len * s)) xs).run P w | none => .ok () w) = .ok () w') :
    (Builtin.append_ ats ty #[.slice base len cap, z]).run P w = .ok (.slice base (len + n) cap) w' := by
  have hti : (typeInfo e).run P w = .ok i w := by simp [typeInfo, hi]
  have hsz : (sizeOf e).run P w = .ok s w := by simp [sizeOf, hti, hs]
  rcases hu2 with hu2 | ⟨e2, hu2⟩
  all_goals
    unfold Builtin.append_
    simp only [h0, h1, List.getElem?_toArray, List.getElem?_cons_zero, List.getElem?_cons_succ, Sem.run_bind, run_underlying hu, Result.andThen_ok, hsz, run_underlying hu2, Sem.run_pure]
    simp [hz1, hle, hz2]
    cases base with
    | none => simp at hst; simp [hst]
    | some ad => simp at hst; simp [hst]

/-- An append that makes a new block. -/
theorem run_append_new {s bytes n : Nat} {t t2 e : TypeId} {i : TypeInfo} {ats : Array TypeId} {ty : TypeId} {base : Option Addr} {len cap : Nat} {z : Value} {xs old : List Value} (h0 : ats[0]? = some t) (h1 : ats[1]? = some t2) (hu : P.underlying t = some (.slice e)) (hu2 : P.underlying t2 = some .string ∨ ∃ e2, P.underlying t2 = some (.slice e2)) (hi : P.info? e = some i) (hs : i.size = s) (hb : i.bytes = bytes)
    (hz1 : ∀ k, (Builtin.lenOf z).run P (w.drewN k) = .ok n (w.drewN k)) (hz2 : ∀ k, (Builtin.firstCells s n z).run P (w.drewN k) = .ok xs.toArray (w.drewN k)) (hlt : cap < len + n) (hbb : (len + n) * bytes ≤ 70368744177664) (hn64 : len + n ≤ 70368744177664)
    (hold : ∀ k, (Builtin.firstCells s len (.slice base len cap)).run P (w.drewN k) = .ok old.toArray (w.drewN k)) {zs : Value} (hzs : ∀ w', (zeroValue e).run P w' = .ok zs w') (hzsz : zs.cells.size = s) :
    ∃ nc rest, len + n ≤ nc ∧ rest.length = (nc - (len + n)) * s ∧ (Builtin.append_ ats ty #[.slice base len cap, z]).run P w = .ok (.slice (some ⟨w.heap.size, 0, none⟩) (len + n) nc) ((w.drewN 1).alloc (.cells (old ++ xs ++ rest).toArray e (0, 0))) := by
  have hti : ∀ w', (typeInfo e).run P w' = .ok i w' := fun w' => by simp [typeInfo, hi]
  have hsz : ∀ w', (sizeOf e).run P w' = .ok s w' := fun w' => by simp [sizeOf, hti, hs]
  have hz10 : (Builtin.lenOf z).run P w = .ok n w := hz1 0
  have hz21 := hz2 1
  have hold1 := hold 1
  have hfit := growslice_fits (need := len + n) (old := cap) (bytes := bytes) hlt (by omega)
  have hnle : ¬ (len + n ≤ cap) := by omega
  have h63 : ¬ (9223372036854775807 < ((len : Int) + (n : Int))) := by omega
  have h48 : ¬ (281474976710656 < Builtin.nextslicecap (len + n) cap * bytes) := by omega
  refine ⟨grownCap w (len + n) cap e, (Builtin.zeroCells zs.cells (grownCap w (len + n) cap e - (len + n))).toList, ?_, ?_, ?_⟩
  · unfold grownCap Question.cut; simp
  · simp [Builtin.zeroCells, hzsz]
  · have hw1 : ({ w with drawn := w.drawn + 1 } : World) = w.drewN 1 := rfl
    have hd1 : w.drew = w.drewN 1 := rfl
    rcases hu2 with hu2 | ⟨e2, hu2⟩
    all_goals
      unfold Builtin.append_
      simp only [h0, h1, List.getElem?_toArray, List.getElem?_cons_zero, List.getElem?_cons_succ, Sem.run_bind, run_underlying hu, Result.andThen_ok, hsz, run_underlying hu2, Sem.run_pure]
      simp [hz10, hnle, hti, hb, h63, h48, Question.forced, hd1, hold1, hz21, hzs, newRow, grownCap]
      congr 2
      apply Array.ext'
      simp

/-- The new block of an append: what is told of it, and of its slice. -/
theorem app_new (hr : HR B0 β H w) {e : TypeId} {s len n nc : Nat} {cs : List CV} {xs rest : List Value} (hc : Cells β cs xs) (hl : cs.length = (len + n) * s) (hnc : len + n ≤ nc) (hrest : rest.length = (nc - (len + n)) * s) :
    ∃ β', (AV.c (.slice (some (H.length, 0)) (len + n) (.toEnd s))).rel β' (.slice (some ⟨w.heap.size, 0, none⟩) (len + n) nc) ∧ Go_ B0 β H w β' (H ++ [some ⟨e, cs, .opn⟩]) ((w.drewN 1).alloc (.cells (xs ++ rest).toArray e (0, 0))) := by
  have hg := (hr.drewN 1).alloc e cs (xs ++ rest) .opn (.inr rfl) (by rw [hc.1, List.take_left' rfl]; exact hc) (fun h => by cases h)
  refine ⟨_, ?_, (Go_.drewN hr 1).trans hg⟩
  have hlen : (xs ++ rest).length = nc * s := by
    rw [List.length_append, ← hc.1, hl, hrest, ← Nat.add_mul]
    congr 1; omega
  refine ⟨_, _, fun _ => hr.newAddr _, fun _ => rfl, rfl, hnc, ⟨w.heap.size, 0, (xs ++ rest).length, ?_, by rw [hlen]; simp⟩⟩
  have := hr.len
  show (β ++ [(w.heap.size, 0, (xs ++ rest).length)])[H.length]? = _
  rw [List.getElem?_append_right (by omega), this]; simp

theorem ok_append (hs : SR β σ a) (hr : HR B0 β H w) {t t2 e : TypeId} {args : Array Operand} {ats : Array TypeId} {x y : Operand} {x' y' : Opd} {i : TypeInfo} {z : List CV} (h0 : ats[0]? = some t) (h1 : ats[1]? = some t2) (ha : args.toList = [x, y])
    (hu : P.underlying t = some (.slice e)) (hu2 : P.underlying t2 = some .string ∨ ∃ e2, P.underlying t2 = some (.slice e2)) (hx : cOpd x = some x') (hy : cOpd y = some y') (hz : zeroC P e = some z) (hi : P.info? e = some i) (hzl : z.length = i.size) (hb : 0 < i.bytes) (hsz : 0 < i.size)
    (hv : appendA H e i.size i.bytes (x'.ev σ) (y'.ev σ) = some (v, H')) :
    OpOk P ⟨dst, .call ⟨.builtin .append, args, ats⟩, type, pos, after, g⟩ a B0 β H w v H' := by
  have rx := cOpd_rel hs hx
  have ry := cOpd_rel hs hy
  unfold appendA at hv
  split at hv
  case h_2 => simp at hv
  rename_i _ _ p len c n cs hpe hse
  rw [hpe] at rx
  obtain ⟨hz1, xs, hz2, hcs⟩ := src_rel (P := P) hr ry hse
  have hcl : cs.length = n * i.size := by
    unfold srcCells at hse
    split at hse
    · simp at hse; obtain ⟨rfl, rfl⟩ := hse; simp
    · split at hse
      · simp at hse; obtain ⟨rfl, rfl⟩ := hse; simp
      · simp only [Option.map_eq_some_iff] at hse
        obtain ⟨cs', hc, e2⟩ := hse
        simp at e2; obtain ⟨rfl, rfl⟩ := e2
        exact readCells_len hc
    · split at hse
      · rename_i h1
        simp at hse; obtain ⟨rfl, rfl⟩ := hse
        simp [h1]
      · simp at hse
    · simp at hse
  have hargs : args.map a.eval = #[a.eval x, a.eval y] := by
    have : args = #[x, y] := by rw [← Array.toArray_toList (xs := args), ha]
    rw [this]; simp
  have run_ : ∀ (u : Value) (w' : World), (Builtin.append_ ats type #[a.eval x, a.eval y]).run P w = .ok u w' → (execOp a.eval ⟨dst, .call ⟨.builtin .append, args, ats⟩, type, pos, after, g⟩).run P w = .ok (.value u) w' := by
    intro u w' h
    refine ok_builtin rfl ?_
    simp [builtin, hargs, h]
  obtain ⟨zv, hzv, hzc⟩ := run_zero (P := P) hz w
  have hzv' : ∀ w', (zeroValue e).run P w' = .ok zv w' := by
    intro w'
    unfold zeroC at hz
    rw [hi] at hz
    simp only at hz
    split at hz
    · rename_i v0 hv0
      have e1 : (zeroValue e).run P w = .ok v0 w := by simp [zeroValue, typeInfo, hi, hv0]
      rw [hzv] at e1
      injection e1 with e1
      subst e1
      simp [zeroValue, typeInfo, hi, hv0]
    · simp at hz
  have hzsz : zv.cells.size = i.size := by
    have := (hzc β).1
    simp at this; omega
  -- the slice's value
  have hsl : ∃ base cap, a.eval x = .slice base len cap ∧ len ≤ cap ∧ (p = none → base = none ∧ len = 0 ∧ cap = 0) ∧ (∀ q, p = some q → ∃ ad, base = some ad ∧ (needsAddr len c = true → AddrRel β q ad) ∧ (needsAddr len c = true → ad.spot = none) ∧ CapRel β q cap c) := by
    cases p with
    | none => obtain ⟨rfl, e⟩ := rx; exact ⟨none, 0, e, Nat.le_refl _, fun _ => ⟨rfl, rfl, rfl⟩, fun q h => by cases h⟩
    | some q => obtain ⟨ad, cap, h2, h3, h4, h5, h6⟩ := rx; exact ⟨some ad, cap, h4, h5, (fun h => by cases h), (fun q' h => by cases h; exact ⟨ad, rfl, h2, h3, h6⟩)⟩
  obtain ⟨base, cap, hxe, hlc, hp0, hp1⟩ := hsl
  split at hv
  · -- nothing is appended
    rename_i hn0
    simp at hv; obtain ⟨rfl, rfl⟩ := hv
    subst hn0
    have hxs : xs = [] := by have := hcs.1; rw [hcl] at this; simpa using this.symm
    subst hxs
    rw [hpe]
    refine .same hr (x := .slice base len cap) (run_ _ _ ?_) (by rw [← hxe]; exact rx)
    rw [hxe]
    exact run_append_fits (P := P) (w := w) (len := len) (n := 0) h0 h1 hu hu2 hi rfl (hz1 0) (hz2 0) (by omega) (by cases base <;> simp [storeCells])
  rename_i hn0
  split at hv
  case isFalse => simp at hv
  rename_i hbb2
  obtain ⟨hbb, hok⟩ := hbb2
  have hn64 : len + n ≤ 70368744177664 := Nat.le_trans (Nat.le_mul_of_pos_right _ hb) hbb
  -- a new block
  have mk : ∀ (old : List Value) (ocs : List CV), cap < len + n → Cells β ocs old → ocs.length = len * i.size → (∀ k, (Builtin.firstCells i.size len (.slice base len cap)).run P (w.drewN k) = .ok old.toArray (w.drewN k)) →
      OpOk P ⟨dst, .call ⟨.builtin .append, args, ats⟩, type, pos, after, g⟩ a B0 β H w (.c (.slice (some (H.length, 0)) (len + n) (.toEnd i.size))) (H ++ [some ⟨e, ocs ++ cs, .opn⟩]) := by
    intro old ocs hlt hoc hol hold
    obtain ⟨nc, rest, h3, h4, h5⟩ := run_append_new (P := P) (w := w) (ty := type) h0 h1 hu hu2 hi rfl rfl hz1 hz2 hlt hbb hn64 hold hzv' hzsz
    obtain ⟨β', h6, h7⟩ := app_new (e := e) hr (hoc.append hcs) (by rw [List.length_append, hol, hcl, Nat.add_mul]) h3 h4
    exact .value (run_ _ _ (by rw [hxe]; exact h5)) h6 h7
  split at hv
  · -- onto nil
    obtain ⟨rfl, rfl, rfl⟩ := hp0 rfl
    simp at hv; obtain ⟨rfl, rfl⟩ := hv
    have := mk [] [] (by omega) (Cells.nil β) (by simp) (fun k => by simp [Builtin.firstCells])
    simpa using this
  rename_i q
  obtain ⟨ad, rfl, hra, hsp, hcr⟩ := hp1 q rfl
  split at hv
  · -- the capacity is known
    rename_i k
    have hck : cap = k := hcr
    subst hck
    split at hv
    · rename_i hfit
      simp only [Option.map_eq_some_iff] at hv
      obtain ⟨H1, hw, hv⟩ := hv
      simp at hv; obtain ⟨rfl, rfl⟩ := hv
      have had := hra (by simp [needsAddr]; omega)
      obtain ⟨w', h3, h4⟩ := hr.store (P := P) hw (had.add (len * i.size)) hcs
      refine .value (x := .slice (some ad) (len + n) cap) (run_ _ _ ?_) ?_ h4
      · rw [hxe]
        exact run_append_fits (P := P) (w := w) h0 h1 hu hu2 hi rfl (hz1 0) (hz2 0) hfit h3
      · exact ⟨ad, cap, fun _ => had, fun _ => had.spot, rfl, hfit, rfl⟩
    · rename_i hnf
      split at hv
      · rename_i hl0
        subst hl0
        simp at hv; obtain ⟨rfl, rfl⟩ := hv
        have := mk [] [] (by omega) (Cells.nil β) (by simp) (fun k => by simp [Builtin.firstCells, loadCells, loadCellsFrom])
        simpa using this
      · rename_i hl0
        split at hv
        case h_2 => simp at hv
        rename_i old hold
        simp at hv; obtain ⟨rfl, rfl⟩ := hv
        have had := hra (by simp [needsAddr]; omega)
        obtain ⟨os, h3, h4, h5⟩ := hr.loadCellsD (P := P) hold had
        exact mk os old (by omega) h5 (readCells_len hold) (fun k => by simp [Builtin.firstCells, h4])
  · -- to its block's end
    rename_i sz
    split at hv
    case h_2 => simp at hv
    rename_i blk hblk
    have hblki := get_some hblk
    have hm : (blk.m = .own ∨ blk.m = .opn) ∧ (sz = i.size ∧ 0 < len ∧ q.2 = 0 ∧ blk.cells.length = len * i.size ∧ blk.e = e) ∧ v = .c (.slice (some (H.length, 0)) (len + n) (.toEnd i.size)) ∧ H' = H.set q.1 none ++ [some ⟨e, blk.cells ++ cs, .opn⟩] := by
      split at hv
      · simp at hv
      · rename_i hro
        split at hv
        · rename_i hc
          simp at hv
          refine ⟨?_, hc, hv.1.symm, hv.2.symm⟩
          cases hbm : blk.m with
          | ro => exact absurd hbm hro
          | own => exact .inl rfl
          | opn => exact .inr rfl
        · simp at hv
    obtain ⟨hm, ⟨rfl, hlen0, hq2, hbl, rfl⟩, rfl, rfl⟩ := hm
    obtain ⟨b, o, kk, hβ, hcap⟩ := hcr
    have had := hra rfl
    rcases hr.blk q.1 blk hblki with ⟨hm', _⟩ | ⟨_, ⟨b', ys, hb', hB, hh, hys, hown⟩⟩
    · rw [hm'] at hm; simp at hm
    rw [hβ] at hb'; injection hb' with hb'; injection hb' with e1 hb'; injection hb' with e2 e3
    subst e1; subst e2; subst e3
    obtain ⟨b1, o1, k1, h3, rfl⟩ := had
    rw [hβ] at h3; injection h3 with h3; injection h3 with e1 h3; injection h3 with e2 e3
    subst e1; subst e2
    rw [hq2] at hcap
    simp only [Nat.zero_add] at hcap
    have hqH : q.1 < H.length := (List.getElem?_eq_some_iff.1 hblki).1
    by_cases hfit : len + n ≤ cap
    · -- in place
      have hle2 : len * i.size + xs.length ≤ ys.length := by
        rw [← hcs.1, hcl, ← hcap, ← Nat.add_mul]
        exact Nat.mul_le_mul_right _ hfit
      have hst := run_storeCells (P := P) (b := b) (off := len * i.size) xs 0 ys w hh (by omega) (fun u hu => by
        obtain ⟨j, hj⟩ := List.getElem?_of_mem hu
        have hj' : j < cs.length := by rw [hcs.1]; exact (List.getElem?_eq_some_iff.1 hj).1
        obtain ⟨y1, h1, h2⟩ := hcs.2 j cs[j] (List.getElem?_eq_getElem hj')
        rw [hj] at h1; injection h1 with h1; subst h1
        exact CV.ok_store (List.all_eq_true.1 hok _ (List.getElem_mem hj')) h2)
      simp only [Nat.add_zero] at hst
      have hys0 := hys
      rw [hbl] at hys0
      have hgrow := hr.grow hblki hm hβ hB hh (cs := blk.cells ++ cs) (ys' := setL ys (len * i.size) xs) (setL_len hle2) (by
        rw [List.length_append, hbl, hcs.1]
        have : (setL ys (len * i.size) xs).take (len * i.size + xs.length) = ys.take (len * i.size) ++ xs := by
          unfold setL
          rw [List.append_assoc, List.take_append, List.length_take, Nat.min_eq_left (by omega)]
          rw [List.take_of_length_le (by simp; omega)]
          congr 1
          rw [show len * i.size + xs.length - len * i.size = xs.length by omega]
          simp
        rw [this]
        exact hys0.append hcs)
      refine .value (x := .slice (some ⟨b, 0 + q.2, none⟩) (len + n) cap) (run_ _ _ ?_) ?_ hgrow
      · rw [hxe]
        refine run_append_fits (P := P) (w := w) h0 h1 hu hu2 hi rfl (hz1 0) (hz2 0) hfit ?_
        rw [hq2]
        simp only [Nat.add_zero]
        rw [add_plain, Nat.zero_add]
        exact hst
      · have hl : (β ++ [(b, 0, ys.length)])[H.length]? = some (b, 0, ys.length) := by
          rw [List.getElem?_append_right (by rw [hr.len]; exact Nat.le_refl _), hr.len]; simp
        exact ⟨_, cap, fun _ => ⟨b, 0, ys.length, hl, by rw [hq2]⟩, fun _ => rfl, rfl, hfit, ⟨b, 0, ys.length, hl, by simpa using hcap⟩⟩
    · -- a new block
      have hkill := hr.kill q.1
      have hold : ∀ k, (Builtin.firstCells i.size len (.slice (some ⟨b, 0 + q.2, none⟩) len cap)).run P (w.drewN k) = .ok (ys.take (len * i.size)).toArray (w.drewN k) := by
        intro k
        simp only [Builtin.firstCells, loadCells]
        have hlen' : (ys.take (len * i.size)).length = len * i.size := by
          rw [List.length_take, Nat.min_eq_left]
          rw [← hcap]; exact Nat.mul_le_mul_right _ hlc
        have := run_loadCellsFrom (P := P) (w := w.drewN k) (a := ⟨b, 0 + q.2, none⟩) (ys.take (len * i.size)) 0 #[] (fun j u hj => by
          rw [Nat.zero_add, add_plain, hq2]
          simp only [World.cell?_drewN, World.cell?, World.heap_drewN, hh]
          have hjl : j < len * i.size := by
            have := (List.getElem?_eq_some_iff.1 hj).1; omega
          rw [List.getElem?_take_of_lt hjl] at hj
          simp [hj])
        rw [hlen'] at this
        simpa using this
      obtain ⟨nc, rest, h3, h4, h5⟩ := run_append_new (P := P) (w := w) (ty := type) h0 h1 hu hu2 hi rfl rfl hz1 hz2 (by omega) hbb hn64 hold hzv' hzsz
      have hys0 := hys
      rw [hbl] at hys0
      obtain ⟨β', h6, h7⟩ := app_new (e := blk.e) hkill.hr (hys0.append hcs) (by rw [List.length_append, hbl, hcl, Nat.add_mul]) h3 h4
      have hHl : (H.set q.1 none).length = H.length := by simp
      rw [hHl] at h6
      exact .value (run_ _ _ (by rw [hxe]; exact h5)) h6 (hkill.trans h7)
  · simp at hv

end
end Go.Proofs.Ytebdajfangbdpaa.VI
