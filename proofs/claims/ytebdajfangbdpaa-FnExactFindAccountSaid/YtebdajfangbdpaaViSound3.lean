/- An interpreter over an abstract heap, and its soundness over the machine: part Sound3. -/
import Derived.Test.YtebdajfangbdpaaViSound2
import Derived.IntWalk
set_option linter.unusedVariables false
set_option linter.unusedSimpArgs false
set_option linter.unusedSectionVars false
namespace Go.Proofs.Ytebdajfangbdpaa.VI
open Go Go.RowKit

section
variable {P : Program} {call : CallA} {B0 : Nat} {β : Beta} {H H' : AHeap} {σ : Sl} {a : Act} {w : World} {v : AV} {dst : Option Tmp} {type : TypeId} {pos : String} {after : Array Edge} {g : Option (Nat × Bool)}

/-! ### Filling -/
theorem foldl_set (off : Nat) : ∀ (xs : List Value) (i : Nat) (cells : List Value), off + i + xs.length ≤ cells.length →
    ((xs.zipIdx i).foldl (fun cs (p : Value × Nat) => cs.setIfInBounds (off + p.2) p.1) cells.toArray) = (setL cells (off + i) xs).toArray
  | [], i, cells, _ => by simp [setL]
  | x :: xs, i, cells, h => by
    simp only [List.length_cons] at h
    simp only [List.zipIdx_cons, List.foldl_cons, List.setIfInBounds_toArray]
    rw [foldl_set off xs (i + 1) (cells.set (off + i) x) (by simp; omega)]
    rw [← Nat.add_assoc, setL_cons (by omega)]

/-- The parts of a literal: places and cells on both sides. -/
def PartsRel (β : Beta) (place : Nat → Option (Nat × Nat)) (l : List (Nat × Nat × List CV)) (m : List (Nat × Value)) : Prop :=
  l.length = m.length ∧ ∀ (j : Nat) (o n : Nat) (cs : List CV), l[j]? = some (o, n, cs) → ∃ i x, m[j]? = some (i, x) ∧ place i = some (o, n) ∧ ∃ xs : List Value, x.cells = xs.toArray ∧ Cells β cs xs

theorem parts_rel (hs : SR β σ a) {place : Nat → Option (Nat × Nat)} : ∀ {ps : List (Nat × Operand)} {qs : List (Nat × Nat × Opd)} {l : List (Nat × Nat × List CV)}, partsC place ps = some qs → partsA σ qs = some l → PartsRel β place l (ps.map fun p => (p.1, a.eval p.2))
  | [], qs, l, h1, h2 => by
    simp [partsC] at h1; subst h1
    simp [partsA] at h2; subst h2
    exact ⟨rfl, fun j o n cs h => by simp at h⟩
  | (i, x) :: ps, qs, l, h1, h2 => by
    simp only [partsC] at h1
    split at h1
    case h_2 => simp at h1
    rename_i o n y l1 hp hy hl
    simp at h1; subst h1
    simp only [partsA] at h2
    split at h2
    case h_2 => simp at h2
    rename_i cs l2 hcs hl2
    simp at h2; subst h2
    have ih := parts_rel hs hl hl2
    refine ⟨by simp [ih.1], fun j o' n' cs' hj => ?_⟩
    cases j with
    | zero =>
      simp at hj; obtain ⟨rfl, rfl, rfl⟩ := hj
      obtain ⟨xs, h3, h4⟩ := AV.cells_rel hcs (cOpd_rel hs hy)
      exact ⟨i, a.eval x, rfl, hp, xs, h3, h4⟩
    | succ j => exact ih.2 j o' n' cs' (by simpa using hj)

theorem fill_rel {place : Nat → Option (Nat × Nat)} : ∀ {l : List (Nat × Nat × List CV)} {m : List (Nat × Value)} {z cs : List CV} {zs : List Value}, PartsRel β place l m → Cells β z zs → fillC z l = some cs →
    ∃ xs : List Value, Instr.fill place zs.toArray m = some xs.toArray ∧ Cells β cs xs
  | [], m, z, cs, zs, hp, hz, h => by
    have := hp.1
    simp at this
    have hm : m = [] := List.length_eq_zero_iff.1 this.symm
    subst hm
    simp [fillC] at h; subst h
    exact ⟨zs, rfl, hz⟩
  | (o, n, cs0) :: l, m, z, cs, zs, hp, hz, h => by
    cases m with
    | nil => have := hp.1; simp at this
    | cons p m =>
      obtain ⟨i, x, h1, h2, xs, h3, h4⟩ := hp.2 0 o n cs0 rfl
      simp at h1; subst h1
      simp only [fillC] at h
      split at h
      case isFalse => simp at h
      rename_i hc
      have hlen : xs.length = n := by rw [← h4.1]; exact hc.1
      obtain ⟨ys, h5, h6⟩ := fill_rel (m := m) ⟨by have := hp.1; simpa using this, fun j o' n' cs' hj => hp.2 (j + 1) o' n' cs' (by simpa using hj)⟩ (hz.set (off := o) h4) h
      refine ⟨ys, ?_, h6⟩
      have hzl : o + xs.length ≤ zs.length := by rw [← hz.1, hlen]; exact hc.2
      simp only [Instr.fill, h2, h3]
      rw [if_neg (by simp [hlen]; rw [← hz.1]; exact hc.2)]
      have := foldl_set o xs 0 zs (by simpa using hzl)
      simp only [Nat.add_zero] at this
      rw [← h5, ← this]
      congr 1
      rw [← Array.foldl_toList]
      simp

theorem fieldPlaces_run : ∀ {fs : List Field} {pl : List (Nat × Nat)}, fieldPlaces P fs = some pl → (fs.mapM (m := Sem) fun f => do pure (f.offset, ← sizeOf f.type)).run P w = .ok pl w
  | [], pl, h => by simp [fieldPlaces] at h; subst h; rfl
  | f :: fs, pl, h => by
    simp only [fieldPlaces] at h
    split at h
    case h_2 => simp at h
    rename_i n l hn hl
    simp at h; subst h
    have ih := fieldPlaces_run hl
    simp only [List.mapM_cons, Sem.run_bind, run_size hn, Result.andThen_ok, Sem.run_pure, ih]

theorem run_mapM_array {α γ : Type} (f : α → Sem γ) (xs : Array α) (ys : List γ) (h : (xs.toList.mapM f).run P w = .ok ys w) : (xs.mapM f).run P w = .ok ys.toArray w := by
  rw [Array.mapM_eq_mapM_toList, Sem.run_map, h]
  rfl

theorem ok_build (hs : SR β σ a) (hr : HR B0 β H w) {t : TypeId} {z : List CV} {parts : Array (Nat × Operand)} {place : Nat → Option (Nat × Nat)} {qs : List (Nat × Nat × Opd)} (hz : zeroC P t = some z) (hq : partsC place parts.toList = some qs)
    (hpl : (∃ fs pl, P.underlying t = some (.struct fs) ∧ fieldPlaces P fs.toList = some pl ∧ place = fun i => pl[i]?) ∨ (∃ n e s, P.underlying t = some (.array n e) ∧ sizeC P e = some s ∧ place = fun i => some (i * s, s)))
    {l : List (Nat × Nat × List CV)} (hl : partsA σ qs = some l) {cs : List CV} (hc : fillC z l = some cs) :
    OpOk P ⟨dst, .build t parts, type, pos, after, g⟩ a B0 β H w (.agg cs) H := by
  obtain ⟨zv, hzv, hzc⟩ := run_zero (P := P) hz w
  have hp := parts_rel hs hq hl
  obtain ⟨xs, h1, h2⟩ := fill_rel hp (hzc β) hc
  refine .same hr (x := .agg xs.toArray) ?_ ⟨xs, rfl, h2⟩
  have hpm : (parts.map fun (i, x) => (i, a.eval x)).toList = parts.toList.map fun p => (p.1, a.eval p.2) := by simp
  rcases hpl with ⟨fs, pl, hu, hfp, rfl⟩ | ⟨n, e, s, hu, hss, rfl⟩
  · have hm := run_mapM_array (P := P) (w := w) (fun f : Field => do pure (f.offset, ← sizeOf f.type)) fs pl (fieldPlaces_run hfp)
    simp only [execOp, Instr.build, Sem.run_bind, hzv, Result.andThen_ok, run_underlying hu, hm, hpm]
    simp only [List.getElem?_toArray]
    simp only [Array.toArray_toList] at h1
    simp [h1]
  · simp only [execOp, Instr.build, Sem.run_bind, hzv, Result.andThen_ok, run_underlying hu, run_size hss, hpm]
    simp only [Array.toArray_toList] at h1
    simp [h1]

theorem flat_cells {z : List CV} {zs : List Value} (h : Cells β z zs) : ∀ n, Cells β (List.replicate n z).flatten (List.replicate n zs).flatten
  | 0 => by simpa using Cells.nil β
  | n + 1 => by
    rw [List.replicate_succ, List.replicate_succ, List.flatten_cons, List.flatten_cons]
    exact h.append (flat_cells h n)
theorem flat_len {α : Type} (z : List α) : ∀ n, (List.replicate n z).flatten.length = n * z.length
  | 0 => by simp
  | n + 1 => by rw [List.replicate_succ, List.flatten_cons, List.length_append, flat_len z n, Nat.add_mul]; omega
theorem flat_get {α : Type} (z : List α) : ∀ (n i : Nat), i < n * z.length → (List.replicate n z).flatten[i]? = z[i % z.length]?
  | 0, i, h => by simp at h
  | n + 1, i, h => by
    rw [List.replicate_succ, List.flatten_cons]
    by_cases hi : i < z.length
    · rw [List.getElem?_append_left hi, Nat.mod_eq_of_lt hi]
    · rw [List.getElem?_append_right (by omega), flat_get z n (i - z.length) (by rw [Nat.add_mul] at h; omega)]
      congr 1
      exact (Nat.mod_eq_sub_mod (by omega)).symm
theorem zeros_eq (zs : List Value) (n : Nat) : ((Array.range (n * zs.length)).map (fun i => zs.toArray[i % zs.length]!)) = ((List.replicate n zs).flatten).toArray := by
  apply Array.ext_getElem?
  intro i
  simp only [Array.getElem?_map, List.getElem?_toArray]
  by_cases hi : i < n * zs.length
  · rw [flat_get zs n i hi]
    have hz : 0 < zs.length := by rcases Nat.eq_zero_or_pos zs.length with h | h; · rw [h] at hi; simp at hi
                                  · exact h
    have hm : i % zs.length < zs.length := Nat.mod_lt _ hz
    simp [hi, hm]
  · rw [List.getElem?_eq_none (by rw [flat_len]; omega)]
    simp [hi]

theorem ok_slice_new (hr : HR B0 β H w) {e : TypeId} {cs : List CV} {xs : List Value} (hc : Cells β cs xs) {l c : Nat} (hlc : l ≤ c) {o : Oper}
    (h : (execOp a.eval o).run P w = .ok (.value (.slice (some ⟨w.heap.size, 0, none⟩) l c)) (w.alloc (.cells xs.toArray e (0, 0)))) : OpOk P o a B0 β H w (.c (.slice (some (H.length, 0)) l (.exact c))) (H ++ [some ⟨e, cs, .own⟩]) :=
  .value h ⟨_, _, fun _ => hr.newAddr _, fun _ => rfl, rfl, hlc, rfl⟩ (hr.alloc e cs xs .own (.inl rfl) (by rw [hc.1, List.take_length]; exact hc) (fun _ => hc.1.symm))

theorem buildSl_run (hs : SR β σ a) {t e : TypeId} {len s : Nat} {z : List CV} {parts : Array (Nat × Operand)} {qs : List (Nat × Nat × Opd)} (hu : P.underlying t = some (.slice e)) (hz : zeroC P e = some z) (hss : sizeC P e = some s) (hzs : z.length = s) (hle : len * s ≤ 2 ^ 24) (hq : partsC (fun i => some (i * s, s)) parts.toList = some qs)
    {l : List (Nat × Nat × List CV)} (hl : partsA σ qs = some l) {cs : List CV} (hc : fillC (List.replicate len z).flatten l = some cs) :
    ∃ xs : List Value, Cells β cs xs ∧ (execOp a.eval ⟨dst, .buildSlice t len parts, type, pos, after, g⟩).run P w = .ok (.value (.slice (some ⟨w.heap.size, 0, none⟩) len len)) (w.alloc (.cells xs.toArray e (0, 0))) := by
  obtain ⟨zv, hzv, hzc⟩ := run_zero (P := P) hz w
  have hp := parts_rel hs hq hl
  have hzl : zv.cells.toList.length = s := by rw [← (hzc β).1]; exact hzs
  obtain ⟨xs, h1, h2⟩ := fill_rel hp (flat_cells (hzc β) len) hc
  refine ⟨xs, h2, ?_⟩
  have hpm : (parts.map fun (i, x) => (i, a.eval x)).toList = parts.toList.map fun p => (p.1, a.eval p.2) := by simp
  have hz0 : (Array.range (len * s)).map (fun i => zv.cells[i % zv.cells.size]!) = ((List.replicate len zv.cells.toList).flatten).toArray := by
    have := zeros_eq zv.cells.toList len
    rw [hzl] at this
    rw [← this]
    simp [← hzl]
  have hnot : ¬ (len * s > 2 ^ 24) := by omega
  simp only [execOp, Instr.buildSlice, Sem.run_bind, run_underlying hu, Result.andThen_ok, run_size hss, hpm]
  rw [if_neg hnot]
  simp only [Sem.run_pure]
  by_cases h0 : len * s = 0
  · have hnil : (List.replicate len zv.cells.toList).flatten = [] := List.length_eq_zero_iff.1 (by rw [flat_len, hzl]; exact h0)
    rw [hnil] at h1
    rw [if_pos h0]
    have hE : (Array.range (len * s)).map (fun i => (#[] : Array Value)[i % (#[] : Array Value).size]!) = #[] := by rw [h0]; simp
    simp only [pure_bind]
    rw [hE, h1]
    simp [newRow]
  · rw [if_neg h0]
    simp only [Sem.run_bind, hzv, Result.andThen_ok, Sem.run_pure]
    rw [hz0, h1]
    simp [newRow]

/-! ### Cuts -/
theorem ok_buildSl (hs : SR β σ a) (hr : HR B0 β H w) {t e : TypeId} {len s : Nat} {z : List CV} {parts : Array (Nat × Operand)} {qs : List (Nat × Nat × Opd)} (hu : P.underlying t = some (.slice e)) (hz : zeroC P e = some z) (hss : sizeC P e = some s) (hzs : z.length = s) (hle : len * s ≤ 2 ^ 24) (hq : partsC (fun i => some (i * s, s)) parts.toList = some qs)
    {l : List (Nat × Nat × List CV)} (hl : partsA σ qs = some l) {cs : List CV} (hc : fillC (List.replicate len z).flatten l = some cs) :
    OpOk P ⟨dst, .buildSlice t len parts, type, pos, after, g⟩ a B0 β H w (.c (.slice (some (H.length, 0)) len (.exact len))) (H ++ [some ⟨e, cs, .own⟩]) := by
  obtain ⟨xs, h1, h2⟩ := buildSl_run (dst := dst) (type := type) (pos := pos) (after := after) (g := g) (w := w) hs hu hz hss hzs hle hq hl hc
  exact ok_slice_new hr h1 (Nat.le_refl _) h2

theorem optInt_rel (hs : SR β σ a) {x : Option Operand} {y : Option Opd} (hc : cOpt x = some y) {n : Option Int} (h : optInt σ y = some n) :
    (x = none ∧ y = none ∧ n = none) ∨ ∃ x0 k m, x = some x0 ∧ n = some m ∧ a.eval x0 = .int k m := by
  cases x with
  | none => simp [cOpt] at hc; subst hc; simp [optInt] at h; exact .inl ⟨rfl, rfl, h.symm⟩
  | some x0 =>
    simp [cOpt] at hc
    obtain ⟨y0, hy0, rfl⟩ := hc
    simp only [optInt] at h
    split at h
    · rename_i k m hm
      simp at h; subst h
      have := cOpd_rel hs hy0
      rw [hm] at this
      exact .inr ⟨x0, k, m, rfl, rfl, rel_int this⟩
    · simp at h

theorem run_sliceBound {k : IntKind} {i : Int} {y : Nat} {code : BoundsCode} (h : 0 ≤ i ∧ i ≤ y) : (Instr.sliceBound (.int k i) y code).run P w = .ok i.toNat w := by
  simp [Instr.sliceBound, asIntOf, h]

theorem cut_bounds (hs : SR β σ a) {lo hi : Option Operand} {lo' hi' : Option Opd} {l h : Option Int} (hcl : cOpt lo = some lo') (hch : cOpt hi = some hi') (hl : optInt σ lo' = some l) (hh : optInt σ hi' = some h)
    (len cap : Nat) (isSlice : Bool) (hle : len ≤ cap) (hb : 0 ≤ l.getD 0 ∧ l.getD 0 ≤ h.getD len ∧ h.getD len ≤ len) :
    (Instr.sliceBounds isSlice len cap (lo.map a.eval) (hi.map a.eval) none).run P w = .ok ((l.getD 0).toNat, (h.getD len).toNat, cap) w := by
  rcases optInt_rel hs hch hh with ⟨rfl, rfl, rfl⟩ | ⟨x1, k1, m1, rfl, rfl, e1⟩ <;> rcases optInt_rel hs hcl hl with ⟨rfl, rfl, rfl⟩ | ⟨x2, k2, m2, rfl, rfl, e2⟩
  · simp [Instr.sliceBounds]
  · simp only [Option.getD_some, Option.getD_none] at hb
    simp [Instr.sliceBounds, e2, run_sliceBound (k := k2) (i := m2) (y := len) ⟨hb.1, by omega⟩]
  · simp only [Option.getD_some, Option.getD_none] at hb
    simp [Instr.sliceBounds, e1, run_sliceBound (k := k1) (i := m1) (y := cap) ⟨by omega, by omega⟩]
  · simp only [Option.getD_some] at hb
    simp [Instr.sliceBounds, e1, e2, run_sliceBound (k := k1) (i := m1) (y := cap) ⟨by omega, by omega⟩, run_sliceBound (k := k2) (i := m2) (y := m1.toNat) ⟨hb.1, by omega⟩]

theorem cut_bounds3 (hs : SR β σ a) {lo hi mx : Option Operand} {lo' hi' mx' : Option Opd} {l h : Option Int} {m : Int} (hcl : cOpt lo = some lo') (hch : cOpt hi = some hi') (hcm : cOpt mx = some mx') (hl : optInt σ lo' = some l) (hh : optInt σ hi' = some h) (hm : optInt σ mx' = some (some m))
    (len cap : Nat) (hle : len ≤ cap) (hb : 0 ≤ l.getD 0 ∧ l.getD 0 ≤ h.getD len ∧ h.getD len ≤ len) (hb2 : h.getD len ≤ m ∧ m ≤ len) (hsome : h.isSome = true) :
    (Instr.sliceBounds true len cap (lo.map a.eval) (hi.map a.eval) (mx.map a.eval)).run P w = .ok ((l.getD 0).toNat, (h.getD len).toNat, m.toNat) w := by
  rcases optInt_rel hs hcm hm with ⟨_, _, h0⟩ | ⟨x3, k3, m3, rfl, h0, e3⟩
  · simp at h0
  simp at h0; subst h0
  rcases optInt_rel hs hch hh with ⟨rfl, rfl, rfl⟩ | ⟨x1, k1, m1, rfl, rfl, e1⟩
  · simp at hsome
  simp only [Option.getD_some] at hb hb2
  rcases optInt_rel hs hcl hl with ⟨rfl, rfl, rfl⟩ | ⟨x2, k2, m2, rfl, rfl, e2⟩
  · simp only [Option.getD_none] at hb
    simp [Instr.sliceBounds, e1, e3, run_sliceBound (k := k3) (i := m) (y := cap) ⟨by omega, by omega⟩, run_sliceBound (k := k1) (i := m1) (y := m.toNat) ⟨by omega, by omega⟩]
  · simp only [Option.getD_some] at hb
    simp [Instr.sliceBounds, e1, e2, e3, run_sliceBound (k := k3) (i := m) (y := cap) ⟨by omega, by omega⟩, run_sliceBound (k := k1) (i := m1) (y := m.toNat) ⟨by omega, by omega⟩, run_sliceBound (k := k2) (i := m2) (y := m1.toNat) ⟨hb.1, by omega⟩]

/-- The cut of a slice: its value, and the relation. -/
theorem cut_rel {s : Nat} {p : Nat × Nat} {len cap l h : Nat} {c : Cap} {ad : Addr} (ha : needsAddr len c = true → AddrRel β p ad) (hsp : needsAddr len c = true → ad.spot = none) (hlc : len ≤ cap) (hcr : CapRel β p cap c) (hlh : l ≤ h) (hhl : h ≤ len) :
    (CV.slice (some (p.1, p.2 + l * s)) (h - l) (capCut s l (h - l) c)).rel β (.slice ((if cap = l then some ad else some (ad.add (l * s)))) (h - l) (cap - l)) := by
  have key : needsAddr (h - l) (capCut s l (h - l) c) = true → AddrRel β (p.1, p.2 + l * s) (if cap = l then ad else ad.add (l * s)) := by
    intro hn
    have hcl : cap ≠ l := by
      intro e
      have h0 : h - l = 0 := by omega
      cases c with
      | exact k => simp [needsAddr, capCut, h0] at hn; simp [CapRel] at hcr; omega
      | toEnd z => simp [needsAddr, capCut, h0] at hn
      | any => simp [needsAddr, capCut, h0] at hn
    rw [if_neg hcl]
    refine (ha ?_).add _
    cases c with
    | exact k => simp [needsAddr, capCut] at hn ⊢; omega
    | toEnd z => rfl
    | any => simp [needsAddr, capCut] at hn ⊢; omega
  refine ⟨if cap = l then ad else ad.add (l * s), cap - l, key, fun hn => (key hn).spot, by split <;> rfl, by omega, ?_⟩
  · cases c with
    | exact k => simp only [CapRel] at hcr; subst hcr; rfl
    | toEnd z =>
      simp only [capCut]
      split
      · trivial
      · rename_i hne
        simp only [not_or, Decidable.not_not] at hne
        obtain ⟨b, o, k, h1, h2⟩ := hcr
        refine ⟨b, o, k, h1, ?_⟩
        rw [hne.2] at h2 ⊢
        have : l * s + (cap - l) * s = cap * s := by rw [← Nat.add_mul]; congr 1; omega
        simp only
        omega
    | any => trivial

theorem ok_sliceS (hs : SR β σ a) (hr : HR B0 β H w) {t e : TypeId} {s : Nat} {x : Operand} {lo hi mx : Option Operand} {x' : Opd} {lo' hi' mx' : Option Opd} (hu : P.underlying t = some (.slice e)) (hss : sizeC P e = some s) (hx : cOpd x = some x') (hcl : cOpt lo = some lo') (hch : cOpt hi = some hi') (hcm : cOpt mx = some mx') {l h m : Option Int} (hl : optInt σ lo' = some l) (hh : optInt σ hi' = some h) (hm : optInt σ mx' = some m)
    (hv : sliceA s (x'.ev σ) l h m = some v) : OpOk P ⟨dst, .slice t x lo hi mx, type, pos, after, g⟩ a B0 β H w v H := by
  have rx := cOpd_rel hs hx
  unfold sliceA at hv
  split at hv
  case h_2 => simp at hv
  rename_i p len c hp
  rw [hp] at rx
  simp only at hv
  split at hv
  case isFalse => simp at hv
  rename_i hb
  have hlh : (l.getD 0).toNat ≤ (h.getD len).toNat := by omega
  have hhl : (h.getD len).toNat ≤ len := by omega
  have hsub : (h.getD len - l.getD 0).toNat = (h.getD len).toNat - (l.getD 0).toNat := by omega
  have hat : ∀ (z : Value), (Instr.slice t (a.eval x) (lo.map a.eval) (hi.map a.eval) (mx.map a.eval)).run P w = .ok z w → (execOp a.eval ⟨dst, .slice t x lo hi mx, type, pos, after, g⟩).run P w = .ok (.value z) w := by
    intro z hz
    simp [execOp, Instr.sliceAt, run_underlying hu, hz]
  cases p with
  | none =>
    obtain ⟨h0, e0⟩ := rx
    subst h0
    have hl0 : (l.getD 0).toNat = 0 := by omega
    have hh0 : (h.getD 0).toNat = 0 := by simp at hhl; omega
    split at hv
    · rcases optInt_rel hs hcm hm with ⟨rfl, rfl, _⟩ | ⟨_, _, _, _, h0, _⟩
      case inr => simp at h0
      simp at hv; subst hv
      have hbd := cut_bounds (P := P) (w := w) hs hcl hch hl hh 0 0 true (Nat.le_refl _) (by simpa using hb)
      refine .same hr (x := .slice none 0 0) (hat _ ?_) ?_
      · simp only [Instr.slice, Sem.run_bind, run_underlying hu, Result.andThen_ok, e0]
        simp only [Option.map_none] at hbd ⊢
        simp only [hbd, Sem.run_bind, Result.andThen_ok, run_size hss, Sem.run_pure]
        simp [hl0, hh0]
      · refine ⟨?_, rfl⟩
        simp at hhl; omega
    · rename_i m' 
      split at hv
      case isFalse => simp at hv
      rename_i hb2
      simp at hv; subst hv
      rcases optInt_rel hs hcm hm with ⟨_, _, h0⟩ | ⟨x3, k3, m3, rfl, h0, e3⟩
      · simp at h0
      have hbd := cut_bounds3 (P := P) (w := w) hs hcl hch hcm hl hh hm 0 0 (Nat.le_refl _) (by simpa using hb) (by simpa using ⟨hb2.1, hb2.2.1⟩) hb2.2.2
      refine .same hr (x := .slice none 0 0) (hat _ ?_) ?_
      · simp only [Instr.slice, Sem.run_bind, run_underlying hu, Result.andThen_ok, e0]
        simp only [Option.map_some] at hbd ⊢
        simp only [hbd, Sem.run_bind, Result.andThen_ok, run_size hss, Sem.run_pure]
        have : m'.toNat = 0 := by have := hb2.2.1; simp at this; omega
        simp [hl0, hh0, this]
      · refine ⟨?_, rfl⟩
        simp at hhl; omega
  | some p =>
    obtain ⟨ad, cap, ha, hsp, e0, hlc, hcr⟩ := rx
    split at hv
    · rcases optInt_rel hs hcm hm with ⟨rfl, rfl, _⟩ | ⟨_, _, _, _, h0, _⟩
      case inr => simp at h0
      simp at hv; subst hv
      have hbd := cut_bounds (P := P) (w := w) hs hcl hch hl hh len cap true hlc hb
      refine .same hr (x := .slice (if cap = (l.getD 0).toNat then some ad else some (ad.add ((l.getD 0).toNat * s))) ((h.getD len).toNat - (l.getD 0).toNat) (cap - (l.getD 0).toNat)) (hat _ ?_) ?_
      · simp only [Instr.slice, Sem.run_bind, run_underlying hu, Result.andThen_ok, e0]
        simp only [Option.map_none] at hbd ⊢
        simp only [hbd, Sem.run_bind, Result.andThen_ok, run_size hss, Sem.run_pure, Option.map_some]
      · rw [hsub]
        exact cut_rel ha hsp hlc hcr hlh hhl
    · rename_i m'
      split at hv
      case isFalse => simp at hv
      rename_i hb2
      simp at hv; subst hv
      rcases optInt_rel hs hcm hm with ⟨_, _, h0⟩ | ⟨x3, k3, m3, rfl, h0, e3⟩
      · simp at h0
      have hbd := cut_bounds3 (P := P) (w := w) hs hcl hch hcm hl hh hm len cap hlc hb ⟨hb2.1, hb2.2.1⟩ hb2.2.2
      refine .same hr (x := .slice (if m'.toNat = (l.getD 0).toNat then some ad else some (ad.add ((l.getD 0).toNat * s))) ((h.getD len).toNat - (l.getD 0).toNat) (m'.toNat - (l.getD 0).toNat)) (hat _ ?_) ?_
      · simp only [Instr.slice, Sem.run_bind, run_underlying hu, Result.andThen_ok, e0]
        simp only [Option.map_some] at hbd ⊢
        simp only [hbd, Sem.run_bind, Result.andThen_ok, run_size hss, Sem.run_pure, Option.map_some]
      · rw [hsub]
        have hsub2 : (m' - l.getD 0).toNat = m'.toNat - (l.getD 0).toNat := by omega
        rw [hsub2]
        have key : needsAddr ((h.getD len).toNat - (l.getD 0).toNat) (Cap.exact (m'.toNat - (l.getD 0).toNat)) = true → AddrRel β (p.1, p.2 + (l.getD 0).toNat * s) (if m'.toNat = (l.getD 0).toNat then ad else ad.add ((l.getD 0).toNat * s)) := by
          intro hn
          have hne : m'.toNat ≠ (l.getD 0).toNat := by
            intro e1
            simp [needsAddr] at hn; omega
          rw [if_neg hne]
          refine (ha ?_).add _
          have : 0 < len := by omega
          cases c <;> simp [needsAddr, this]
        exact ⟨if m'.toNat = (l.getD 0).toNat then ad else ad.add ((l.getD 0).toNat * s), m'.toNat - (l.getD 0).toNat, key, fun hn => (key hn).spot, by split <;> rfl, by omega, rfl⟩

theorem ok_sliceStr (hs : SR β σ a) (hr : HR B0 β H w) {t : TypeId} {x : Operand} {lo hi : Option Operand} {x' : Opd} {lo' hi' : Option Opd} (hu : P.underlying t = some .string) (hx : cOpd x = some x') (hcl : cOpt lo = some lo') (hch : cOpt hi = some hi') {l h : Option Int} (hl : optInt σ lo' = some l) (hh : optInt σ hi' = some h)
    (hv : sliceStrA (x'.ev σ) l h = some v) : OpOk P ⟨dst, .slice t x lo hi none, type, pos, after, g⟩ a B0 β H w v H := by
  have rx := cOpd_rel hs hx
  unfold sliceStrA at hv
  split at hv
  case h_2 => simp at hv
  rename_i s hp
  rw [hp] at rx; have e := rel_str rx
  simp only at hv
  split at hv
  case isFalse => simp at hv
  rename_i hb
  simp at hv; subst hv
  have hbd := cut_bounds (P := P) (w := w) hs hcl hch hl hh s.size s.size false (Nat.le_refl _) hb
  refine .same hr (x := .string (s.extract (l.getD 0).toNat (h.getD s.size).toNat)) ?_ rfl
  simp only [execOp, Sem.run_bind, Instr.sliceAt, run_underlying hu, Result.andThen_ok, Instr.slice, e]
  simp [hbd]

theorem ok_mkSl (hs : SR β σ a) (hr : HR B0 β H w) {t e : TypeId} {x y : Operand} {x' y' : Opd} {z : List CV} {i : TypeInfo} (hu : P.underlying t = some (.slice e)) (hx : cOpd x = some x') (hy : cOpd y = some y') (hz : zeroC P e = some z) (hi : P.info? e = some i) (hzl : z.length = i.size) (hp : 0 < i.size) {k1 k2 : IntKind} {n m : Int} (hn : x'.ev σ = .c (.int k1 n)) (hm : y'.ev σ = .c (.int k2 m)) (hb : 0 ≤ n ∧ n ≤ m ∧ m.toNat * i.bytes ≤ 140737488355328 ∧ 0 < i.bytes) :
    OpOk P ⟨dst, .makeSlice t x y, type, pos, after, g⟩ a B0 β H w (.c (.slice (some (H.length, 0)) n.toNat (.exact m.toNat))) (H ++ [some ⟨e, (List.replicate m.toNat z).flatten, .own⟩]) := by
  have rx := cOpd_rel hs hx; rw [hn] at rx; have e1 := rel_int rx
  have ry := cOpd_rel hs hy; rw [hm] at ry; have e2 := rel_int ry
  obtain ⟨zv, hzv, hzc⟩ := run_zero (P := P) hz w
  have hzl' : zv.cells.toList.length = i.size := by rw [← (hzc β).1]; exact hzl
  refine ok_slice_new hr (flat_cells (hzc β) m.toNat) (by omega) ?_
  have hmb : m.toNat ≤ 140737488355328 := Nat.le_trans (Nat.le_mul_of_pos_right _ hb.2.2.2) hb.2.2.1
  have w1 : IntKind.i64.wrap n = n := IntWalk.i64_in _ (by omega)
  have w2 : IntKind.i64.wrap m = m := IntWalk.i64_in _ (by omega)
  have hmm : (m.toNat : Int) = m := by omega
  have hbm : (i.bytes : Int) * m ≤ 140737488355328 := by
    have h := Int.ofNat_le.2 hb.2.2.1
    have h2 : ((140737488355328 : Nat) : Int) = 140737488355328 := rfl
    rw [Int.natCast_mul, hmm, h2, Int.mul_comm] at h
    exact h
  have hti : (typeInfo e).run P w = .ok i w := by simp [typeInfo, hi]
  have hsz : (sizeOf e).run P w = .ok i.size w := by simp [sizeOf, hti]
  have hz0 : (Array.range (m.toNat * i.size)).map (fun j => zv.cells[j % zv.cells.size]!) = ((List.replicate m.toNat zv.cells.toList).flatten).toArray := by
    have := zeros_eq zv.cells.toList m.toNat
    rw [hzl'] at this
    rw [← this]
    simp [← hzl']
  have hcond : (decide (m < 0) || decide ((i.bytes : Int) * m > 2 ^ 48) || decide (n < 0) || decide (n > m)) = false := by
    rw [decide_eq_false (show ¬ m < 0 by omega), decide_eq_false (show ¬ (i.bytes : Int) * m > 2 ^ 48 by omega), decide_eq_false (show ¬ n < 0 by omega), decide_eq_false (show ¬ n > m by omega)]
    rfl
  have hrow : ∀ cells : Array Value, (newRow e cells).run P w = .ok ⟨w.heap.size, 0, none⟩ (w.alloc (.cells cells e (0, 0))) := fun cells => by simp [newRow]
  simp only [execOp, Instr.makeSlice, Sem.run_bind, run_underlying hu, Result.andThen_ok, e1, e2, asInt, asIntOf, hti, w1, w2, Sem.run_pure]
  rw [if_neg (by rw [hcond]; exact Bool.false_ne_true)]
  simp only [Sem.run_bind, run_askRoom, Result.andThen_ok, hsz]
  by_cases h0 : m.toNat * i.size = 0
  · have hm0 : m.toNat = 0 := by
      rcases Nat.mul_eq_zero.1 h0 with h | h
      · exact h
      · omega
    rw [if_pos h0]
    have hE : (Array.range (m.toNat * i.size)).map (fun i => (#[] : Array Value)[i % (#[] : Array Value).size]!) = #[] := by rw [h0]; simp
    simp only [pure_bind, Sem.run_bind]
    rw [hE, hrow]
    simp [hm0]
  · rw [if_neg h0]
    simp only [Sem.run_bind, hzv, Result.andThen_ok, pure_bind]
    rw [hz0, hrow]
    simp

end
end Go.Proofs.Ytebdajfangbdpaa.VI
