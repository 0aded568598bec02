/- An interpreter over an abstract heap, and its soundness over the machine: part D. -/
import Derived.Test.YtmockobmiagbcaaDoorViC
import Derived.Orders
set_option linter.unusedVariables false
set_option linter.unusedSimpArgs false
set_option linter.unusedSectionVars false
namespace Go.Proofs.YtmockobmiagbcaaDoor.VI
open Go Go.RowKit

/-! ### An operation looks at its slots alone -/
section
variable {call : CallA} {σ σ2 : Sl} {H : AHeap}
theorem opd_congr {x : Opd} (h : ∀ t ∈ x.lk, σ t = σ2 t) : x.ev σ = x.ev σ2 := by
  cases x with
  | t n => exact h n (by simp [Opd.lk])
  | k v => rfl
theorem optInt_congr {x : Option Opd} (h : ∀ t ∈ lkO x, σ t = σ2 t) : optInt σ x = optInt σ2 x := by
  cases x with
  | none => rfl
  | some x => simp only [optInt, opd_congr (x := x) h]
theorem parts_congr : ∀ {l : List (Nat × Nat × Opd)}, (∀ t ∈ lkParts l, σ t = σ2 t) → partsA σ l = partsA σ2 l
  | [], _ => rfl
  | (o, n, x) :: l, h => by
    simp only [partsA]
    rw [opd_congr (x := x) (fun t ht => h t (by simp [lkParts]; exact .inl ht)), parts_congr (l := l) (fun t ht => h t (by simp [lkParts] at ht ⊢; exact .inr ht))]
theorem caps_congr : ∀ {l : List Opd}, (∀ t ∈ lks l, σ t = σ2 t) → capsA σ l = capsA σ2 l
  | [], _ => rfl
  | x :: l, h => by
    simp only [capsA]
    rw [opd_congr (x := x) (fun t ht => h t (by simp [lks]; exact .inl ht)), caps_congr (l := l) (fun t ht => h t (by simp [lks] at ht ⊢; exact .inr ht))]
theorem map_congr' : ∀ {l : List Opd}, (∀ t ∈ lks l, σ t = σ2 t) → l.map (Opd.ev σ) = l.map (Opd.ev σ2)
  | [], _ => rfl
  | x :: l, h => by
    simp only [List.map_cons]
    rw [opd_congr (x := x) (fun t ht => h t (by simp [lks]; exact .inl ht)), map_congr' (l := l) (fun t ht => h t (by simp [lks] at ht ⊢; exact .inr ht))]
theorem evalOp_congr {k : KOp} (h : ∀ t ∈ k.lk, σ t = σ2 t) : evalOp call σ H k = evalOp call σ2 H k := by
  cases k <;> simp only [KOp.lk, List.mem_append] at h <;> simp only [evalOp]
  case mov x => rw [opd_congr h]
  case pick c a b => rw [opd_congr (x := c) fun t ht => h t (.inl ht), opd_congr (x := a) fun t ht => h t (.inr (.inl ht)), opd_congr (x := b) fun t ht => h t (.inr (.inr ht))]
  case box e x => rw [opd_congr h]
  case build z p => rw [parts_congr h]
  case buildSl e l z p => rw [parts_congr h]
  case load1 a => rw [opd_congr h]
  case loadN n a => rw [opd_congr h]
  case store n a x => rw [opd_congr (x := a) fun t ht => h t (.inl ht), opd_congr (x := x) fun t ht => h t (.inr ht)]
  case nilchk x => rw [opd_congr h]
  case bin op q x y => rw [opd_congr (x := x) fun t ht => h t (.inl ht), opd_congr (x := y) fun t ht => h t (.inr ht)]
  case un op x => rw [opd_congr h]
  case conv k x => rw [opd_congr h]
  case convBS x => rw [opd_congr h]
  case idxN l s x i => rw [opd_congr (x := x) fun t ht => h t (.inl ht), opd_congr (x := i) fun t ht => h t (.inr ht)]
  case idx1 l x i => rw [opd_congr (x := x) fun t ht => h t (.inl ht), opd_congr (x := i) fun t ht => h t (.inr ht)]
  case idxStr x i => rw [opd_congr (x := x) fun t ht => h t (.inl ht), opd_congr (x := i) fun t ht => h t (.inr ht)]
  case idxA l s x i => rw [opd_congr (x := x) fun t ht => h t (.inl ht), opd_congr (x := i) fun t ht => h t (.inr ht)]
  case idxS s x i => rw [opd_congr (x := x) fun t ht => h t (.inl ht), opd_congr (x := i) fun t ht => h t (.inr ht)]
  case fldA o x => rw [opd_congr h]
  case fldN o n x => rw [opd_congr h]
  case fld1 o x => rw [opd_congr h]
  case sliceS s x a b c => rw [opd_congr (x := x) fun t ht => h t (.inl ht), optInt_congr (x := a) fun t ht => h t (.inr (.inl ht)), optInt_congr (x := b) fun t ht => h t (.inr (.inr (.inl ht))), optInt_congr (x := c) fun t ht => h t (.inr (.inr (.inr ht)))]
  case sliceStr x a b => rw [opd_congr (x := x) fun t ht => h t (.inl ht), optInt_congr (x := a) fun t ht => h t (.inr (.inl ht)), optInt_congr (x := b) fun t ht => h t (.inr (.inr ht))]
  case mkSl e z b l c => rw [opd_congr (x := l) fun t ht => h t (.inl ht), opd_congr (x := c) fun t ht => h t (.inr ht)]
  case mkFn f c => rw [caps_congr h]
  case ext x i => rw [opd_congr h]
  case len b x => rw [opd_congr h]
  case app e s b x y => rw [opd_congr (x := x) fun t ht => h t (.inl ht), opd_congr (x := y) fun t ht => h t (.inr ht)]
  case min xs => rw [map_congr' h]
  case max xs => rw [map_congr' h]
  case call f xs => rw [opd_congr (x := f) fun t ht => h t (.inl ht), map_congr' (l := xs) fun t ht => h t (.inr ht)]

/-- A step's value, and the heap behind it. -/
def resKO (call : CallA) (o : KO) (σ : Sl) (H : AHeap) : Option (AV × AHeap) := if wantA σ o.g then evalOp call σ H o.op else some (.c .undef, H)
theorem evalKO_res {o : KO} {s : St} : evalKO call o s = (resKO call o s.1 s.2).map fun r => (putS s.1 o.dst r.1, r.2) := by
  unfold evalKO resKO; split <;> rfl
theorem want_congr {g : Option (Nat × Bool)} (h : ∀ j w, g = some (j, w) → σ j = σ2 j) : wantA σ g = wantA σ2 g := by
  cases g with
  | none => rfl
  | some p => obtain ⟨j, w⟩ := p; simp only [wantA]; rw [h j w rfl]
theorem ko_lk_guard {o : KO} {j : Nat} {w : Bool} (h : o.g = some (j, w)) : j ∈ o.lk := by unfold KO.lk; rw [h]; simp
theorem ko_lk_op {o : KO} {t : Nat} (h : t ∈ o.op.lk) : t ∈ o.lk := by unfold KO.lk; simp [h]
theorem want_congr' {o : KO} (h : ∀ t ∈ o.lk, σ t = σ2 t) : wantA σ o.g = wantA σ2 o.g := want_congr fun j w e => h j (ko_lk_guard e)
theorem res_congr {o : KO} (h : ∀ t ∈ o.lk, σ t = σ2 t) : resKO call o σ H = resKO call o σ2 H := by
  unfold resKO
  rw [want_congr' h, evalOp_congr fun t ht => h t (ko_lk_op ht)]

/-! ### The kinds -/
theorem pure_op {k : KOp} (hk : k.kind = .P) {v : AV} {H' : AHeap} (h : evalOp call σ H k = some (v, H')) : H' = H ∧ ∀ H2, evalOp call σ H2 k = some (v, H2) := by
  cases k <;> simp only [KOp.kind, reduceCtorEq] at hk <;> simp only [evalOp] at h ⊢
  case mov x => simp at h; obtain ⟨rfl, rfl⟩ := h; exact ⟨rfl, fun _ => rfl⟩
  case lenA n => simp at h; obtain ⟨rfl, rfl⟩ := h; exact ⟨rfl, fun _ => rfl⟩
  case idx1 l x i =>
    generalize x.ev σ = X at h ⊢
    generalize i.ev σ = I at h ⊢
    split at h
    · split at h
      · rename_i hb
        simp only [Option.map_eq_some_iff, Prod.mk.injEq] at h
        obtain ⟨u, h1, rfl, rfl⟩ := h
        exact ⟨rfl, fun _ => by simp [hb, h1]⟩
      · simp at h
    · simp at h
  case idxStr x i =>
    generalize x.ev σ = X at h ⊢
    generalize i.ev σ = I at h ⊢
    split at h
    · split at h
      · rename_i hb
        simp only [Option.map_eq_some_iff, Prod.mk.injEq] at h
        obtain ⟨u, h1, rfl, rfl⟩ := h
        exact ⟨rfl, fun _ => by simp [hb, h1]⟩
      · simp at h
    · simp at h
  all_goals (try simp only [Option.map_eq_some_iff, Prod.mk.injEq] at h ⊢)
  all_goals
    first
    | (obtain ⟨u, h1, rfl, rfl⟩ := h; exact ⟨rfl, fun _ => ⟨u, h1, rfl, trivial⟩⟩)
    | (split at h <;> first | (simp at h; done) | (simp at h; obtain ⟨rfl, rfl⟩ := h; refine ⟨rfl, fun _ => ?_⟩; simp_all; done) | (simp at h; obtain ⟨u, h1, rfl, rfl⟩ := h; refine ⟨rfl, fun _ => ?_⟩; simp_all; done))
    | skip
theorem load_op {k : KOp} (hk : k.kind = .L) {v : AV} {H' : AHeap} (h : evalOp call σ H k = some (v, H')) : H' = H := by
  cases k <;> simp only [KOp.kind, reduceCtorEq] at hk <;> simp only [evalOp] at h
  case load1 x =>
    split at h
    · simp only [Option.map_eq_some_iff, Prod.mk.injEq] at h
      obtain ⟨u, h1, rfl, rfl⟩ := h; rfl
    · simp at h
  case loadN n x =>
    split at h
    · simp only [Option.map_eq_some_iff, Prod.mk.injEq] at h
      obtain ⟨u, h1, rfl, rfl⟩ := h; rfl
    · simp at h
  case convBS x =>
    split at h
    · simp at h; exact h.2.symm
    · split at h
      · simp at h; exact h.2.symm
      · split at h
        · simp only [Option.map_eq_some_iff, Prod.mk.injEq] at h
          obtain ⟨u, h1, rfl, rfl⟩ := h; rfl
        · simp at h
    · simp at h
theorem load_call {k : KOp} (hk : k.kind = .L) {call2 : CallA} : evalOp call σ H k = evalOp call2 σ H k := by
  cases k <;> simp only [KOp.kind, reduceCtorEq] at hk <;> rfl
/-- A step that does nothing to the heap. -/
theorem res_nonE {o : KO} (hk : o.op.kind.isE = false) {v : AV} {H' : AHeap} (h : resKO call o σ H = some (v, H')) : H' = H := by
  unfold resKO at h
  split at h
  · cases hkk : o.op.kind with
    | P => exact (pure_op hkk h).1
    | L => exact load_op hkk h
    | A => rw [hkk] at hk; simp [Kind.isE] at hk
    | H => rw [hkk] at hk; simp [Kind.isE] at hk
  · simp at h; exact h.2.symm
theorem res_pure {o : KO} (hk : o.op.kind = .P) {v : AV} {H' : AHeap} (h : resKO call o σ H = some (v, H')) (H2 : AHeap) : resKO call o σ H2 = some (v, H2) := by
  unfold resKO at h ⊢
  split at h
  · rename_i hw; rw [if_pos hw]; exact (pure_op hk h).2 H2
  · rename_i hw; rw [if_neg hw]; simp at h; rw [← h.1]
theorem res_unwanted {o : KO} (hw : ¬ wantA σ o.g = true) {v : AV} {H' : AHeap} (h : resKO call o σ H = some (v, H')) : v = .c .undef ∧ H' = H ∧ ∀ H2, resKO call o σ H2 = some (v, H2) := by
  unfold resKO at h ⊢
  rw [if_neg hw] at h
  simp at h
  obtain ⟨rfl, rfl⟩ := h
  exact ⟨rfl, rfl, fun H2 => by rw [if_neg hw]⟩

/-- A new block: of what, and what its address is told as. -/
theorem alloc_op {P : Program} {β : Beta} {a : Act} (w : World) (hs : SR β σ a) {o : Oper} {k : KOp} (hc : cOp P o.op = some k) (hk : k.kind = .A) {v : AV} {H' : AHeap} (h : evalOp call σ H k = some (v, H')) :
    ∃ (e : TypeId) (cs : List CV) (xs : List Value) (mkV : Nat → AV) (mkX : Nat → Value), H' = H ++ [some ⟨e, cs, .own⟩] ∧ v = mkV H.length ∧ (∀ H2 : AHeap, evalOp call σ H2 k = some (mkV H2.length, H2 ++ [some ⟨e, cs, .own⟩])) ∧ Cells β cs xs ∧
      ((execOp a.eval o).run P w = .ok (.value (mkX w.heap.size)) (w.alloc (.cells xs.toArray e (0, 0)))) ∧ ∀ (β1 : Beta) (id b n : Nat), β1[id]? = some (b, 0, n) → (mkV id).rel β1 (mkX b) := by
  obtain ⟨dst, op, type, pos, after, gd⟩ := o
  simp only at hc
  have hrel : ∀ (β1 : Beta) (id b n : Nat), β1[id]? = some (b, 0, n) → AddrRel β1 (id, 0) ⟨b, 0, none⟩ := fun β1 id b n hb => ⟨b, 0, n, hb, by simp⟩
  cases op
  case alloc e =>
    simp only [cOp, Option.map_eq_some_iff] at hc
    obtain ⟨z, hz, rfl⟩ := hc
    simp only [evalOp, Option.some.injEq, Prod.mk.injEq] at h; obtain ⟨rfl, rfl⟩ := h
    obtain ⟨x, hx, hcc⟩ := run_zero (P := P) hz w
    exact ⟨e, z, x.cells.toList, fun id => .c (.ptr (some (id, 0))), fun b => .pointer (some ⟨b, 0, none⟩), rfl, rfl, fun H2 => rfl, hcc β, by simp [execOp, Instr.alloc, newVar, newRow, hx], fun β1 id b n hb => ⟨_, hrel β1 id b n hb, rfl⟩⟩
  case box e x =>
    simp only [cOp, Option.map_eq_some_iff] at hc
    obtain ⟨y, hy, rfl⟩ := hc
    simp only [evalOp] at h
    split at h
    case h_2 => simp at h
    rename_i cs hcs
    simp only [Option.some.injEq, Prod.mk.injEq] at h; obtain ⟨rfl, rfl⟩ := h
    obtain ⟨xs, h1, h2⟩ := AV.cells_rel hcs (cOpd_rel hs hy)
    exact ⟨e, cs, xs, fun id => .c (.ptr (some (id, 0))), fun b => .pointer (some ⟨b, 0, none⟩), rfl, rfl, fun H2 => by simp only [evalOp, hcs], h2, by simp [execOp, Instr.box, newVar, newRow, h1], fun β1 id b n hb => ⟨_, hrel β1 id b n hb, rfl⟩⟩
  case buildSlice t len parts =>
    simp only [cOp] at hc
    split at hc
    case h_2 => simp at hc
    rename_i e hu
    split at hc
    case h_2 => simp at hc
    rename_i z s hz hss
    split at hc
    case isFalse => simp at hc
    rename_i hcond
    simp only [Option.map_eq_some_iff] at hc
    obtain ⟨qs, hq, rfl⟩ := hc
    simp only [evalOp] at h
    split at h
    case h_2 => simp at h
    rename_i l hl
    simp only [Option.map_eq_some_iff] at h
    obtain ⟨cs, hcs, he⟩ := h
    simp only [Prod.mk.injEq] at he; obtain ⟨rfl, rfl⟩ := he
    obtain ⟨xs, h1, h2⟩ := buildSl_run (dst := dst) (type := type) (pos := pos) (after := after) (g := gd) (w := w) hs hu hz hss hcond.1 hcond.2 hq hl hcs
    exact ⟨e, cs, xs, fun id => .c (.slice (some (id, 0)) len (.exact len)), fun b => .slice (some ⟨b, 0, none⟩) len len, rfl, rfl, fun H2 => by simp only [evalOp, hl, hcs, Option.map_some], h1, h2,
      fun β1 id b n hb => ⟨_, len, fun _ => hrel β1 id b n hb, fun _ => rfl, rfl, Nat.le_refl _, rfl⟩⟩
  all_goals (
    exfalso
    simp only [cOp] at hc
    repeat' (split at hc)
    all_goals first
      | (simp at hc; done)
      | (simp only [Option.map_eq_some_iff] at hc; obtain ⟨_, _, rfl⟩ := hc; simp [KOp.kind] at hk; done)
      | (simp only [Option.some.injEq] at hc; subst hc; simp [KOp.kind] at hk; done)
      | (simp_all [KOp.kind]; done)
      | skip)
end
end Go.Proofs.YtmockobmiagbcaaDoor.VI

set_option linter.unusedVariables false
set_option linter.unusedSimpArgs false
set_option linter.unusedSectionVars false
namespace Go.Proofs.YtmockobmiagbcaaDoor.VI
open Go Go.RowKit

/-! ### Slots put aside -/
def clr (ps : List Nat) (a : Act) : Act := ps.foldr (fun t a => a.put (some t) Go.undef) a
theorem clr_get (ps : List Nat) (a : Act) (t : Nat) : (clr ps a).tmps.getD t Go.undef = if t ∈ ps then Go.undef else a.tmps.getD t Go.undef := by
  induction ps with
  | nil => simp [clr]
  | cons u ps ih =>
    have e : clr (u :: ps) a = (clr ps a).put (some u) Go.undef := rfl
    rw [e]
    by_cases h : u = t
    · subst h
      simp only [Act.put, Array.getD_eq_getD_getElem?, Array.getElem?_setIfInBounds_self]
      simp
      split <;> rfl
    · simp only [Act.put, Array.getD_eq_getD_getElem?, Array.getElem?_setIfInBounds_ne h]
      rw [← Array.getD_eq_getD_getElem?, ih]
      have : t ∈ u :: ps ↔ t ∈ ps := by simp [Ne.symm h]
      simp only [this, Array.getD_eq_getD_getElem?]
theorem clr_exec {P : Program} {ops : Array Oper} {o : Oper} {k : KOp} (hc : cOp P o.op = some k) : ∀ {ps : List Nat} {a : Act}, (∀ t ∈ ps, t ∉ o.looksAt ops) → execOp (clr ps a).eval o = execOp a.eval o
  | [], a, _ => rfl
  | u :: ps, a, h => by
    have e : clr (u :: ps) a = (clr ps a).put (some u) Go.undef := rfl
    have hs : ∀ cs b, o.op ≠ .select cs b := by
      intro cs b e
      rw [e] at hc
      simp [cOp] at hc
    rw [e, execOp_put (ops := ops) o hs _ _ _ (fun d hd => by cases hd; exact h u (by simp)), clr_exec hc (fun t ht => h t (by simp [ht]))]
theorem clr_want {ops : Array Oper} {o : Oper} : ∀ {ps : List Nat} {a : Act}, (∀ t ∈ ps, t ∉ o.looksAt ops) → Region.wanted o (yielded ops (clr ps a).tmps) = Region.wanted o (yielded ops a.tmps)
  | [], a, _ => rfl
  | u :: ps, a, h => by
    have e : clr (u :: ps) a = (clr ps a).put (some u) Go.undef := rfl
    rw [e, wanted_put o _ _ _ (fun d hd => by cases hd; exact h u (by simp)), clr_want (fun t ht => h t (by simp [ht]))]

/-! ### Blocks that nobody knows yet -/
section
variable {B0 : Nat} {β : Beta} {H : AHeap} {w : World}
theorem HR.aside (h : HR B0 β H w) (o : Obj) : Go_ B0 β H w β H (w.alloc o) := by
  refine ⟨⟨h.len, by rw [alloc_size]; have := h.base; omega, fun i blk hi => ?_, h.inj, h.gi.kept ((Below.refl B0 w).alloc h.base _)⟩, .refl _, (Below.refl B0 w).alloc h.base _, fun b hb _ => alloc_heap_lt w _ hb, fun b hb ho => ho⟩
  exact BlkRel.kept (.refl _) (fun b hb => alloc_heap_lt w _ (by have := h.base; omega)) (fun hbm b o k hb => alloc_heap_lt w _ (h.lt ⟨i, blk, o, hi, hbm, k, hb⟩)) (h.blk i blk hi)

theorem HR.adopt (h : HR B0 β H w) {b : Nat} {e : TypeId} {cs : List CV} {xs : List Value} (hB : B0 ≤ b) (hh : w.heap[b]? = some (.cells xs.toArray e (0, 0))) (hc : Cells β cs xs) (hn : ¬ Owned β H b) :
    HR B0 (β ++ [(b, 0, xs.length)]) (H ++ [some ⟨e, cs, .own⟩]) w ∧ ∀ x, Owned (β ++ [(b, 0, xs.length)]) (H ++ [some ⟨e, cs, .own⟩]) x → Owned β H x ∨ x = b := by
  have he : Ext β (β ++ [(b, 0, xs.length)]) := ⟨_, rfl⟩
  have hown : ∀ x, Owned (β ++ [(b, 0, xs.length)]) (H ++ [some ⟨e, cs, .own⟩]) x → Owned β H x ∨ x = b := by
    rintro x ⟨i, blk, o, hi, hbm, k, hb⟩
    rcases getElem?_snoc hi with hi | ⟨hi, _⟩
    · have hlt : i < β.length := by rw [h.len]; exact (List.getElem?_eq_some_iff.1 hi).1
      rw [List.getElem?_append_left hlt] at hb
      exact .inl ⟨i, blk, o, hi, hbm, k, hb⟩
    · subst hi
      rw [List.getElem?_append_right (by rw [h.len]; exact Nat.le_refl _), h.len] at hb
      simp at hb
      exact .inr hb.1.symm
  refine ⟨⟨by simp [h.len], h.base, fun i blk hi => ?_, ?_, h.gi⟩, hown⟩
  · rcases getElem?_snoc hi with hi | ⟨hi2, hblk⟩
    · exact BlkRel.kept he (fun _ _ => rfl) (fun _ _ _ _ _ => rfl) (h.blk i blk hi)
    · simp at hblk; subst hblk; subst hi2
      exact .inr ⟨.inl rfl, ⟨b, xs, by rw [List.getElem?_append_right (by rw [h.len]; exact Nat.le_refl _), h.len]; simp, hB, hh, by simp only; rw [hc.1, List.take_length]; exact hc.ext he, fun _ => hc.1.symm⟩⟩
  · intro i j bi bj b' oi oj ki kj hi hj hmi hmj hbi hbj
    have key : ∀ (i : Nat) (bi : Blk) (oi ki : Nat), (H ++ [some ⟨e, cs, .own⟩])[i]? = some (some bi) → (bi.m = .own ∨ bi.m = .opn) → (β ++ [(b, 0, xs.length)])[i]? = some (b', oi, ki) → (H[i]? = some (some bi) ∧ β[i]? = some (b', oi, ki) ∧ Owned β H b') ∨ (i = H.length ∧ b' = b) := by
      intro i bi oi ki hi hmi hbi
      rcases getElem?_snoc hi with hi' | ⟨hi', _⟩
      · have hlt : i < β.length := by rw [h.len]; exact (List.getElem?_eq_some_iff.1 hi').1
        rw [List.getElem?_append_left hlt] at hbi
        exact .inl ⟨hi', hbi, ⟨i, bi, oi, hi', hmi, ki, hbi⟩⟩
      · subst hi'
        rw [List.getElem?_append_right (by rw [h.len]; exact Nat.le_refl _), h.len] at hbi
        simp at hbi
        exact .inr ⟨rfl, hbi.1.symm⟩
    rcases key i bi oi ki hi hmi hbi with ⟨h1, h2, h3⟩ | ⟨h1, h3⟩ <;> rcases key j bj oj kj hj hmj hbj with ⟨h4, h5, h6⟩ | ⟨h4, h6⟩
    · exact h.inj i j bi bj b' oi oj ki kj h1 h4 hmi hmj h2 h5
    · subst h6; exact absurd h3 hn
    · subst h3; exact absurd h6 hn
    · omega
end

/-! ### One step of a region, over an act that looks the same -/
section
variable {P : Program} {call : CallA} {B0 : Nat} {n : Nat} {ops : Array Oper}
theorem wpOp_res (hc : CallOk P call) {β : Beta} {σ : Sl} {H H' : AHeap} {a : Act} {ps : List Nat} {w : World} {v : AV} (hs : SR β σ (clr ps a)) (hr : HR B0 β H w) {i : Nat} {o : Oper} {k : KO} (hi : ops[i]? = some o) (h : cOper P n ops o = some k)
    (hp : ∀ t ∈ ps, t ∉ o.looksAt ops) (he : resKO call k σ H = some (v, H')) {K : Act → World → Prop} {Q : Exit → Act → World → Prop} (hK : ∀ β' x w', v.rel β' x → Go_ B0 β H w β' H' w' → K (a.put o.dst x) w') : wpOp P ops Q i K a w := by
  obtain ⟨hdst, hop, hlt⟩ := cOper_parts h
  have hw := want_eq hs h
  rw [clr_want hp] at hw
  unfold resKO at he
  unfold wpOp
  simp only [hi]
  rw [hw]
  split
  · rename_i hwa
    rw [if_pos hwa] at he
    have hres := op_res hc hs hr hop he
    have hex := clr_exec (ops := ops) (a := a) hop hp
    have hres2 : OpRes P o a B0 β H w v H' := by
      unfold OpRes OpOk at hres ⊢
      rw [hex] at hres
      exact hres
    exact .inl (hres2.wp hK)
  · rename_i hwa
    rw [if_neg hwa] at he
    simp only [Option.some.injEq, Prod.mk.injEq] at he
    obtain ⟨rfl, rfl⟩ := he
    exact hK β _ w rfl (.refl hr)

/-- The same for one that makes a block. -/
theorem wpOp_alloc {β : Beta} {σ : Sl} {H H' : AHeap} {a : Act} {ps : List Nat} {w : World} {v : AV} (hs : SR β σ (clr ps a)) {i : Nat} {o : Oper} {k : KO} (hi : ops[i]? = some o) (h : cOper P n ops o = some k)
    (hp : ∀ t ∈ ps, t ∉ o.looksAt ops) (hk : k.op.kind = .A) (hw : wantA σ k.g = true) (he : resKO call k σ H = some (v, H')) {K : Act → World → Prop} {Q : Exit → Act → World → Prop}
    (hK : ∀ (e : TypeId) (cs : List CV) (xs : List Value) (x : Value), H' = H ++ [some ⟨e, cs, .own⟩] → Cells β cs xs → (∀ β1 : Beta, β1[H.length]? = some (w.heap.size, 0, xs.length) → v.rel β1 x) → K (a.put o.dst x) (w.alloc (.cells xs.toArray e (0, 0)))) : wpOp P ops Q i K a w := by
  obtain ⟨hdst, hop, hlt⟩ := cOper_parts h
  have hw' := want_eq hs h
  rw [clr_want hp, hw] at hw'
  unfold resKO at he
  rw [if_pos hw] at he
  unfold wpOp
  simp only [hi]
  rw [if_pos hw']
  obtain ⟨e, cs, xs, mkV, mkX, h1, h2, _, h4, h5, h6⟩ := alloc_op w hs hop hk he
  rw [clr_exec (ops := ops) (a := a) hop hp] at h5
  refine .inl ?_
  unfold Oper.wp
  rw [h5]
  simp only [Oper.upon]
  exact hK e cs xs _ h1 h4 fun β1 hb => by rw [h2]; exact h6 β1 _ _ _ hb
end
end Go.Proofs.YtmockobmiagbcaaDoor.VI

set_option linter.unusedVariables false
set_option linter.unusedSimpArgs false
set_option linter.unusedSectionVars false
namespace Go.Proofs.YtmockobmiagbcaaDoor.VI
open Go Go.RowKit

/-! ### The static order -/
theorem maskOf_bit (acc : List Nat) : ∀ (ds : List Nat) (m i : Nat), (ds.foldl (fun m d => m ||| 2 ^ d ||| acc.getD d 0) m).testBit i = true → m.testBit i = true ∨ ∃ d ∈ ds, d = i ∨ (acc.getD d 0).testBit i = true
  | [], m, i, h => .inl h
  | d :: ds, m, i, h => by
    rw [List.foldl_cons] at h
    rcases maskOf_bit acc ds _ i h with h | ⟨d', h1, h2⟩
    · simp only [Nat.testBit_or, Bool.or_eq_true, Nat.testBit_two_pow, decide_eq_true_eq] at h
      rcases h with (h | h) | h
      · exact .inl h
      · exact .inr ⟨d, by simp, .inl h⟩
      · exact .inr ⟨d, by simp, .inr h⟩
    · exact .inr ⟨d', by simp [h1], h2⟩

/-- What holds of an operation holds of all that it waits for. -/
def Closed (l : List Oper) (D : Nat → Prop) : Prop := ∀ (i : Nat) (o : Oper), l[i]? = some o → D i → ∀ d ∈ depsO o, D d
theorem ancs_len (l : List Oper) : ∀ acc : List Nat, (l.foldl (fun acc o => acc ++ [maskOf acc (depsO o)]) acc).length = acc.length + l.length := by
  induction l with
  | nil => intro acc; simp
  | cons o l ih => intro acc; rw [List.foldl_cons, ih]; simp; omega
theorem ancs_closed {D : Nat → Prop} : ∀ (l pre : List Oper) (acc : List Nat), Closed (pre ++ l) D → acc.length = pre.length → (∀ j i, (acc.getD j 0).testBit i = true → D j → D i) →
    ∀ j i, ((l.foldl (fun acc o => acc ++ [maskOf acc (depsO o)]) acc).getD j 0).testBit i = true → D j → D i
  | [], pre, acc, _, _, h => h
  | o :: l, pre, acc, hD, hl, h => by
    rw [List.foldl_cons]
    refine ancs_closed l (pre ++ [o]) _ (by simpa using hD) (by simp [hl]) ?_
    intro j i hb hj
    rcases Nat.lt_trichotomy j acc.length with hlt | heq | hgt
    · rw [List.getD_eq_getElem?_getD, List.getElem?_append_left hlt, ← List.getD_eq_getElem?_getD] at hb
      exact h j i hb hj
    · subst heq
      rw [List.getD_eq_getElem?_getD, List.getElem?_append_right (Nat.le_refl _), Nat.sub_self] at hb
      simp only [List.getElem?_cons_zero, Option.getD_some] at hb
      unfold maskOf at hb
      have hdeps : ∀ d ∈ depsO o, D d := hD acc.length o (by rw [hl]; simp) hj
      rcases maskOf_bit acc _ _ i hb with h0 | ⟨d, h1, h2⟩
      · simp at h0
      · rcases h2 with rfl | h2
        · exact hdeps _ h1
        · exact h d i h2 (hdeps d h1)
    · rw [List.getD_eq_getElem?_getD, List.getElem?_eq_none (by simp; omega)] at hb
      simp at hb

namespace Rg
variable {r : Rg}
theorem lt_closed (ha : r.an = ancsOf r.ops.toList) {D : Nat → Prop} (hD : Closed r.ops.toList D) {i j : Nat} (h : r.lt i j = true) (hj : D j) : D i := by
  unfold lt at h
  rw [ha] at h
  exact ancs_closed r.ops.toList [] [] (by simpa using hD) rfl (fun j i hb => by simp at hb) j i h hj

/-- What the check says, place by place. -/
structure Ok (r : Rg) : Prop where
  len : r.s.length = r.N
  surj : ∀ i, i < r.N → ∃ p, p < r.N ∧ r.ix p = i
  lt : ∀ p, p < r.N → r.ix p < r.N
  inj : ∀ p q, p < r.N → q < r.N → r.ix p = r.ix q → p = q
  deps : ∀ p, p < r.N → ∀ d ∈ r.deps (r.ix p), ∃ q, q < p ∧ r.ix q = d
  sync : ∀ p, p < r.N → r.sync (r.ix p) = true → ∀ q, q < p → (r.kind (r.ix q)).isE = true → r.lt (r.ix q) (r.ix p) = true
  dst : ∀ i k t, i < r.N → k < r.N → r.dst k = some t → r.dst i = some t → i = k
  look : ∀ i k t, i < r.N → k < r.N → r.dst k = some t → t ∈ r.lk i → (i = k → (r.kind i).isL = false) ∧ (i ≠ k → r.lt k i = true ∨ (r.lt i k = true ∧ (r.kind i).isL = false))
  load : ∀ i, i < r.N → (r.kind i).isL = true → ∃ t, r.dst i = some t

theorem mem_take {l : List Nat} {p d : Nat} (hp : p ≤ l.length) (h : d ∈ l.take p) : ∃ q, q < p ∧ l.getD q 0 = d := by
  obtain ⟨q, hq⟩ := List.getElem?_of_mem h
  have hlt : q < p := by have := (List.getElem?_eq_some_iff.1 hq).1; simp at this; omega
  rw [List.getElem?_take_of_lt hlt] at hq
  exact ⟨q, hlt, by rw [List.getD_eq_getElem?_getD, hq]; rfl⟩
theorem take_mem {l : List Nat} {p q : Nat} (hp : p ≤ l.length) (hq : q < p) : l.getD q 0 ∈ l.take p := by
  have : (l.take p)[q]? = some (l.getD q 0) := by
    rw [List.getElem?_take_of_lt hq, List.getD_eq_getElem?_getD, List.getElem?_eq_getElem (by omega)]; rfl
  exact List.mem_of_getElem? this

theorem ok_of (h : r.ok = true) : r.Ok := by
  unfold ok at h
  simp only [Bool.and_eq_true, List.all_eq_true, List.mem_range, decide_eq_true_eq, beq_iff_eq, List.contains_iff_mem, Bool.or_eq_true, Bool.not_eq_true'] at h
  obtain ⟨⟨⟨⟨⟨h1, h2⟩, h3⟩, h4⟩, h5⟩, h6⟩ := h
  have hp : ∀ p, p < r.N → p ≤ r.s.length := fun p hp => by omega
  refine ⟨h1, ?_, fun p hp => (h3 p hp).1.1, ?_, ?_, ?_, ?_, ?_, ?_⟩
  · intro i hi
    obtain ⟨p, hpp⟩ := List.getElem?_of_mem (h2 i hi)
    have := (List.getElem?_eq_some_iff.1 hpp).1
    exact ⟨p, by omega, by unfold ix; rw [List.getD_eq_getElem?_getD, hpp]; rfl⟩
  · intro p q hpN hqN he
    rcases Nat.lt_trichotomy p q with h | h | h
    · have := (h3 q hqN).1.2
      have hm := take_mem (hp q hqN) h
      rw [show r.s.getD p 0 = r.ix q from he] at hm
      rw [← List.contains_iff_mem, this] at hm; simp at hm
    · exact h
    · have := (h3 p hpN).1.2
      have hm := take_mem (hp p hpN) h
      rw [show r.s.getD q 0 = r.ix p from he.symm] at hm
      rw [← List.contains_iff_mem, this] at hm; simp at hm
  · intro p hpN d hd
    exact mem_take (hp p hpN) ((h3 p hpN).2 d hd)
  · intro p hpN hs q hq hE
    rcases h4 p hpN with h | h
    · rw [hs] at h; simp at h
    · rcases h _ (take_mem (hp p hpN) hq) with h | h
      · have : (r.kind (r.s.getD q 0)).isE = true := hE
        rw [this] at h; simp at h
      · exact h
  · intro i k t hi hk hdk hdi
    have := h5 i hi k hk
    rw [hdk] at this
    simp only [Bool.and_eq_true, Bool.or_eq_true, beq_iff_eq, bne_iff_ne] at this
    rcases this.1 with h | h
    · exact h
    · exact absurd hdi h
  · intro i k t hi hk hdk ht
    have := h5 i hi k hk
    rw [hdk] at this
    simp only [Bool.and_eq_true, Bool.or_eq_true, Bool.not_eq_true'] at this
    rcases this.2 with h | h
    · rw [← List.contains_iff_mem, h] at ht; simp at ht
    · refine ⟨fun e => ?_, fun e => ?_⟩
      · rw [if_pos e] at h; simpa using h
      · rw [if_neg e] at h
        simpa using h
  · intro i hi hL
    rcases h6 i hi with h | h
    · rw [hL] at h; simp at h
    · exact Option.isSome_iff_exists.1 h

theorem lt_pos (ha : r.an = ancsOf r.ops.toList) (ok : r.Ok) {p q : Nat} (hp : p < r.N) (hq : q < r.N) (h : r.lt (r.ix q) (r.ix p) = true) : q ≤ p := by
  have hD : Closed r.ops.toList (fun i => ∃ q', q' ≤ p ∧ r.ix q' = i) := by
    rintro i o hi ⟨q', hq', rfl⟩ d hd
    have : r.oper (r.ix q') = o := by
      unfold oper
      have : r.ops[r.ix q']? = some o := by simpa using hi
      rw [Array.getD_eq_getD_getElem?, this]; rfl
    obtain ⟨q'', h1, h2⟩ := ok.deps q' (by omega) d (by unfold deps; rw [this]; exact hd)
    exact ⟨q'', by omega, h2⟩
  obtain ⟨q', h1, h2⟩ := lt_closed ha hD h ⟨p, Nat.le_refl _, rfl⟩
  have := ok.inj q' q (by omega) hq h2
  omega
end Rg
end Go.Proofs.YtmockobmiagbcaaDoor.VI

set_option linter.unusedVariables false
set_option linter.unusedSimpArgs false
set_option linter.unusedSectionVars false
namespace Go.Proofs.YtmockobmiagbcaaDoor.VI
open Go Go.RowKit

theorem put_get_same {a : Act} {t : Nat} {x : Value} (h : t < a.tmps.size) : (a.put (some t) x).tmps.getD t Go.undef = x := by
  simp [Act.put, Array.getD_eq_getD_getElem?, h]
theorem put_get_ne {a : Act} {d : Option Nat} {t : Nat} {x : Value} (h : d ≠ some t) : (a.put d x).tmps.getD t Go.undef = a.tmps.getD t Go.undef := by
  cases d with
  | none => rfl
  | some u =>
    have hne : u ≠ t := fun e => h (by rw [e])
    simp only [Act.put, Array.getD_eq_getD_getElem?, Array.getElem?_setIfInBounds_ne hne]

/-! ### The steps, one by one -/
structure Tr (call : CallA) (r : Rg) (tr : Nat → St) (val : Nat → AV) : Prop where
  step : ∀ p, p < r.N → resKO call (r.ko (r.ix p)) (tr p).1 (tr p).2 = some (val p, (tr (p + 1)).2)
  slot : ∀ p, p < r.N → (tr (p + 1)).1 = putS (tr p).1 (r.dst (r.ix p)) (val p)
  again : ∀ p, p < r.N → (r.kind (r.ix p)).isE = true → ∀ q, q < p → (r.kind (r.ix q)).isL = true → r.lt (r.ix q) (r.ix p) = false → rcOk (tr (p + 1)) (r.ko (r.ix q))

theorem drawn_trace {call : CallA} : ∀ {l : List (KO × List KO)} {s s' : St}, evalDrawn call l s = some s' →
    ∃ (tr : Nat → St) (val : Nat → AV), tr 0 = s ∧ tr l.length = s' ∧ ∀ (p : Nat) (x : KO × List KO), l[p]? = some x → resKO call x.1 (tr p).1 (tr p).2 = some (val p, (tr (p + 1)).2) ∧ (tr (p + 1)).1 = putS (tr p).1 x.1.dst (val p) ∧ ∀ o ∈ x.2, rcOk (tr (p + 1)) o
  | [], s, s', h => by
    simp only [evalDrawn, Option.some.injEq] at h; subst h
    exact ⟨fun _ => s, fun _ => .c .undef, rfl, rfl, fun p x hx => by simp at hx⟩
  | x :: l, s, s', h => by
    simp only [evalDrawn, Option.bind_eq_some_iff] at h
    obtain ⟨s1, h1, h2⟩ := h
    split at h2
    case isFalse => simp at h2
    rename_i hrc
    obtain ⟨tr, val, e0, e1, hall⟩ := drawn_trace h2
    simp only [evalOps, Option.bind_eq_some_iff] at h1
    obtain ⟨s2, h3, h4⟩ := h1
    simp only [Option.some.injEq] at h4; subst h4
    rw [evalKO_res] at h3
    simp only [Option.map_eq_some_iff] at h3
    obtain ⟨⟨v, H'⟩, h5, h6⟩ := h3
    refine ⟨fun p => match p with | 0 => s | p + 1 => tr p, fun p => match p with | 0 => v | p + 1 => val p, rfl, e1, ?_⟩
    intro p y hy
    cases p with
    | zero =>
      simp at hy; subst hy
      simp only [e0, ← h6]
      rw [← h6] at hrc
      exact ⟨h5, trivial, hrc⟩
    | succ p =>
      simp at hy
      exact hall p y hy

theorem trace_of {call : CallA} {r : Rg} {s s' : St} (h : evalDrawn call r.steps s = some s') (hlen : r.s.length = r.N) : ∃ tr val, Tr call r tr val ∧ tr 0 = s ∧ tr r.N = s' := by
  obtain ⟨tr, val, e0, e1, hall⟩ := drawn_trace h
  have hl : r.steps.length = r.N := by simp [Rg.steps]
  rw [hl] at e1
  have hg : ∀ p, p < r.N → r.steps[p]? = some (r.step p) := by intro p hp; simp [Rg.steps, hp]
  refine ⟨tr, val, ⟨fun p hp => (hall p _ (hg p hp)).1, fun p hp => (hall p _ (hg p hp)).2.1, fun p hp hE q hq hL hlt => ?_⟩, e0, e1⟩
  refine (hall p _ (hg p hp)).2.2 _ ?_
  unfold Rg.step
  rw [if_pos hE]
  refine List.mem_map.2 ⟨r.ix q, List.mem_filter.2 ⟨Rg.take_mem (by omega) hq, ?_⟩, rfl⟩
  rw [hL, hlt]; rfl

section
variable {call : CallA} {r : Rg} {tr : Nat → St} {val : Nat → AV} (T : Tr call r tr val) (ok : r.Ok)
include T ok

theorem Tr.set {p t : Nat} (hp : p < r.N) (ht : r.dst (r.ix p) = some t) : ∀ m, p < m → m ≤ r.N → (tr m).1 t = val p := by
  intro m
  induction m with
  | zero => intro h; omega
  | succ m ih =>
    intro h hm
    rw [T.slot m (by omega)]
    by_cases e : m = p
    · subst e; rw [ht]; simp [putS, upd]
    · have : r.dst (r.ix m) ≠ some t := by
        intro hd
        have := ok.dst _ _ t (ok.lt m (by omega)) (ok.lt p hp) ht hd
        exact e (ok.inj m p (by omega) hp this)
      have : putS (tr m).1 (r.dst (r.ix m)) (val m) t = (tr m).1 t := by
        cases hd : r.dst (r.ix m) with
        | none => rfl
        | some u =>
          have hne : t ≠ u := fun e => this (by rw [hd, e])
          simp [putS, upd, hne]
      rw [this]
      exact ih (by omega) (by omega)
theorem Tr.old {t : Nat} : ∀ m, m ≤ r.N → (∀ p, p < m → r.dst (r.ix p) ≠ some t) → (tr m).1 t = (tr 0).1 t := by
  intro m
  induction m with
  | zero => intro _ _; rfl
  | succ m ih =>
    intro hm h
    rw [T.slot m (by omega)]
    have : putS (tr m).1 (r.dst (r.ix m)) (val m) t = (tr m).1 t := by
      cases hd : r.dst (r.ix m) with
      | none => rfl
      | some u =>
        have hne : t ≠ u := fun e => h m (by omega) (by rw [hd, e])
        simp [putS, upd, hne]
    rw [this]
    exact ih (by omega) fun p hp => h p (by omega)
theorem Tr.heap {p : Nat} (hp : p < r.N) (hE : (r.kind (r.ix p)).isE = false) : (tr (p + 1)).2 = (tr p).2 := res_nonE hE (T.step p hp)

/-- Slots that were looked at are the same later, too, for a load. -/
theorem Tr.loadSlots (ha : r.an = ancsOf r.ops.toList) {q : Nat} (hq : q < r.N) (hL : (r.kind (r.ix q)).isL = true) {t : Nat} (ht : t ∈ r.lk (r.ix q)) {m : Nat} (hm : q ≤ m) (hmN : m ≤ r.N) : (tr m).1 t = (tr q).1 t := by
  by_cases hw : ∃ p, p < r.N ∧ r.dst (r.ix p) = some t
  · obtain ⟨p, hp, hd⟩ := hw
    obtain ⟨h1, h2⟩ := ok.look _ _ t (ok.lt q hq) (ok.lt p hp) hd ht
    by_cases e : r.ix q = r.ix p
    · rw [h1 e] at hL; simp at hL
    · rcases h2 e with h | ⟨_, h⟩
      · have hle := Rg.lt_pos ha ok hq hp h
        have hne : p ≠ q := fun e' => e (by rw [e'])
        rw [T.set ok hp hd m (by omega) hmN, T.set ok hp hd q (by omega) (by omega)]
      · rw [h] at hL; simp at hL
  · have hno : ∀ p, p < r.N → r.dst (r.ix p) ≠ some t := fun p hp hd => hw ⟨p, hp, hd⟩
    rw [T.old ok m hmN fun p hp => hno p (by omega), T.old ok q (by omega) fun p hp => hno p (by omega)]

/-- A load tells the same as long as what has been done since does not wait for it. -/
theorem Tr.reload (ha : r.an = ancsOf r.ops.toList) {q : Nat} (hq : q < r.N) (hL : (r.kind (r.ix q)).isL = true) {σ : Sl} (hσ : ∀ t ∈ (r.ko (r.ix q)).lk, σ t = (tr q).1 t) :
    ∀ m, q ≤ m → m ≤ r.N → (∀ p, q < p → p < m → (r.kind (r.ix p)).isE = true → r.lt (r.ix q) (r.ix p) = false) → resKO call (r.ko (r.ix q)) σ (tr m).2 = some (val q, (tr m).2) := by
  have hE : (r.kind (r.ix q)).isE = false := by
    cases hk : r.kind (r.ix q) <;> rw [hk] at hL <;> simp [Kind.isL] at hL <;> rfl
  have hlk : ∀ t ∈ (r.ko (r.ix q)).lk, t ∈ r.lk (r.ix q) := fun t ht => by unfold Rg.lk; simp [ht]
  intro m
  induction m with
  | zero =>
    intro h _ _
    have : q = 0 := by omega
    subst this
    have := T.step 0 hq
    rw [T.heap ok hq hE] at this
    rw [res_congr hσ]; exact this
  | succ m ih =>
    intro h hm hno
    by_cases e : q = m + 1
    · subst e
      have := T.step (m + 1) hq
      rw [T.heap ok hq hE] at this
      rw [res_congr hσ]; exact this
    · have ihm := ih (by omega) (by omega) fun p h1 h2 h3 => hno p h1 (by omega) h3
      by_cases hEm : (r.kind (r.ix m)).isE = true
      · by_cases hqm : q = m
        · subst hqm; rw [hEm] at hE; simp at hE
        · have hrc := T.again m (by omega) hEm q (by omega) hL (hno m (by omega) (by omega) hEm)
          have hag : ∀ t ∈ (r.ko (r.ix q)).lk, σ t = (tr (m + 1)).1 t := fun t ht => by rw [hσ t ht, T.loadSlots ok ha hq hL (hlk t ht) (by omega) hm]
          unfold rcOk at hrc
          unfold resKO
          rw [want_congr' hag]
          by_cases hw : wantA (tr (m + 1)).1 (r.ko (r.ix q)).g = true
          · rw [if_pos hw]
            have := hrc hw
            obtain ⟨d, hd⟩ := ok.load _ (ok.lt q hq) hL
            have hd' : (r.ko (r.ix q)).dst = some d := hd
            rw [hd'] at this
            simp only [T.set ok hq hd (m + 1) (by omega) hm] at this
            have hkL : (r.ko (r.ix q)).op.kind = .L := by
              have : (r.kind (r.ix q)) = (r.ko (r.ix q)).op.kind := rfl
              rw [← this]
              cases hk : r.kind (r.ix q) <;> rw [hk] at hL <;> simp [Kind.isL] at hL <;> rfl
            rw [evalOp_congr (σ2 := (tr (m + 1)).1) fun t ht => hag t (ko_lk_op ht), load_call hkL (call2 := fun _ _ _ => none)]
            exact this
          · rw [if_neg hw]
            have hst := T.step q hq
            have hw2 : ¬ wantA (tr q).1 (r.ko (r.ix q)).g = true := by
              rw [← want_congr' (σ := (tr (m + 1)).1) fun t ht => by rw [← hag t ht, hσ t ht]]; exact hw
            rw [(res_unwanted hw2 hst).1]
      · have hEm' : (r.kind (r.ix m)).isE = false := by simpa using hEm
        rw [T.heap ok (by omega) hEm']
        exact ihm
end
end Go.Proofs.YtmockobmiagbcaaDoor.VI

set_option linter.unusedVariables false
set_option linter.unusedSimpArgs false
set_option linter.unusedSectionVars false
namespace Go.Proofs.YtmockobmiagbcaaDoor.VI
open Go Go.RowKit

section
variable {call : CallA} {r : Rg} {tr : Nat → St} {val : Nat → AV} {B0 n : Nat} {β0 : Beta} {w0 : World}

/-- Its block is there, but not known yet. -/
def Pnd (r : Rg) (tr : Nat → St) (D : Nat → Prop) (m q : Nat) : Prop := m ≤ q ∧ (r.kind (r.ix q)).isA = true ∧ D (r.ix q) ∧ wantA (tr q).1 (r.ko (r.ix q)).g = true

structure Pend (r : Rg) (tr : Nat → St) (val : Nat → AV) (w0 : World) (m q : Nat) (β : Beta) (a : Act) (w : World) (b : Nat) : Prop where
  at_ : ∃ (e : TypeId) (cs : List CV) (xs : List Value), (tr (q + 1)).2 = (tr q).2 ++ [some ⟨e, cs, .own⟩] ∧ w.heap[b]? = some (.cells xs.toArray e (0, 0)) ∧ Cells β cs xs ∧
    ∀ t, r.dst (r.ix q) = some t → ∀ β1 : Beta, β1[(tr q).2.length]? = some (b, 0, xs.length) → (val q).rel β1 (a.tmps.getD t Go.undef)
  lt : b < w.heap.size
  new : w0.heap.size ≤ b
  free : ¬ Owned β (tr m).2 b

structure Inv (r : Rg) (tr : Nat → St) (val : Nat → AV) (B0 n : Nat) (β0 : Beta) (w0 : World) (D : Nat → Prop) (m : Nat) (β : Beta) (a : Act) (w : World) (bl : Nat → Nat) : Prop where
  le : m ≤ r.N
  cl : Closed r.ops.toList D
  low : ∀ q, q < m → (r.kind (r.ix q)).isE = true → D (r.ix q)
  high : ∀ q, q < r.N → (r.kind (r.ix q)).isH = true → D (r.ix q) → q < m
  go : Go_ B0 β0 (tr 0).2 w0 β (tr m).2 w
  base : B0 ≤ w0.heap.size
  size : a.tmps.size = n
  defers : a.defers = []
  set : ∀ q, q < r.N → D (r.ix q) → ∀ t, r.dst (r.ix q) = some t → Pnd r tr D m q ∨ (val q).rel β (a.tmps.getD t Go.undef)
  old : ∀ t, (∀ q, q < r.N → D (r.ix q) → r.dst (r.ix q) ≠ some t) → ((tr 0).1 t).rel β (a.tmps.getD t Go.undef)
  pend : ∀ q, q < r.N → Pnd r tr D m q → Pend r tr val w0 m q β a w (bl q)
  apart : ∀ q q', q < r.N → q' < r.N → Pnd r tr D m q → Pnd r tr D m q' → bl q = bl q' → q = q'

variable {D : Nat → Prop} {m : Nat} {β : Beta} {a : Act} {w : World} {bl : Nat → Nat}

theorem Pnd.isE {q : Nat} (h : Pnd r tr D m q) : (r.kind (r.ix q)).isE = true := by
  have := h.2.1
  cases hk : r.kind (r.ix q) <;> rw [hk] at this <;> simp [Kind.isA] at this
  rfl

/-- The level rises by one. -/
theorem Inv.adv (T : Tr call r tr val) (ok : r.Ok) (I : Inv r tr val B0 n β0 w0 D m β a w bl) (hm : m < r.N) (hD : (r.kind (r.ix m)).isE = true → D (r.ix m)) : ∃ β', Ext β β' ∧ Inv r tr val B0 n β0 w0 D (m + 1) β' a w bl := by
  by_cases hp : Pnd r tr D m m
  · -- the block is known from here on
    obtain ⟨⟨e, cs, xs, hh, hb, hc, hv⟩, hlt, hnew, hfree⟩ := I.pend m hm hp
    obtain ⟨hr', hown⟩ := I.go.hr.adopt (b := bl m) (e := e) (by have := I.base; omega) hb hc hfree
    have he : Ext β (β ++ [(bl m, 0, xs.length)]) := ⟨_, rfl⟩
    have hmono : ∀ q, Pnd r tr D (m + 1) q → Pnd r tr D m q := fun q h => ⟨by have := h.1; omega, h.2⟩
    refine ⟨β ++ [(bl m, 0, xs.length)], he, ⟨by omega, I.cl, ?_, ?_, ?_, I.base, I.size, I.defers, ?_, ?_, ?_, ?_⟩⟩
    · intro q hq hE
      by_cases e : q = m
      · subst e; exact hD hE
      · exact I.low q (by omega) hE
    · intro q hq hH hd
      have := I.high q hq hH hd; omega
    · rw [hh]
      refine ⟨hr', I.go.ext.trans he, I.go.below, I.go.fr, fun b hb ho => ?_⟩
      rcases hown b ho with h | h
      · exact I.go.sub b hb h
      · subst h; omega
    · intro q hq hd t ht
      by_cases e : q = m
      · subst e
        refine .inr (hv t ht _ ?_)
        have hl := I.go.hr.len
        rw [List.getElem?_append_right (by omega), hl]; simp
      · rcases I.set q hq hd t ht with h | h
        · exact .inl ⟨by have := h.1; omega, h.2⟩
        · exact .inr (AV.rel_ext he h)
    · intro t ht; exact AV.rel_ext he (I.old t ht)
    · intro q hq hp'
      obtain ⟨⟨e', cs', xs', hh', hb', hc', hv'⟩, hlt', hnew', hfree'⟩ := I.pend q hq (hmono q hp')
      refine ⟨⟨e', cs', xs', hh', hb', hc'.ext he, hv'⟩, hlt', hnew', fun ho => ?_⟩
      rw [hh] at ho
      rcases hown _ ho with h | h
      · exact hfree' h
      · have := I.apart q m hq hm (hmono q hp') hp h
        have := hp'.1; omega
    · intro q q' hq hq' h h' e; exact I.apart q q' hq hq' (hmono q h) (hmono q' h') e
  · -- the heap stays
    have hheap : (tr (m + 1)).2 = (tr m).2 := by
      by_cases hE : (r.kind (r.ix m)).isE = true
      · have hd := hD hE
        have hA : (r.kind (r.ix m)).isA = true := by
          cases hk : r.kind (r.ix m) with
          | A => rfl
          | H => have := I.high m hm (by rw [hk]; rfl) hd; omega
          | L => rw [hk] at hE; simp [Kind.isE] at hE
          | P => rw [hk] at hE; simp [Kind.isE] at hE
        have hw : ¬ wantA (tr m).1 (r.ko (r.ix m)).g = true := fun hw => hp ⟨Nat.le_refl _, hA, hd, hw⟩
        exact (res_unwanted hw (T.step m hm)).2.1
      · exact T.heap ok hm (by simpa using hE)
    have hiff : ∀ q, Pnd r tr D m q → Pnd r tr D (m + 1) q := fun q h => by
      refine ⟨?_, h.2⟩
      rcases Nat.lt_or_ge m q with h' | h'
      · exact h'
      · have : q = m := by have := h.1; omega
        subst this; exact absurd h hp
    have hmono : ∀ q, Pnd r tr D (m + 1) q → Pnd r tr D m q := fun q h => ⟨by have := h.1; omega, h.2⟩
    refine ⟨β, .refl _, ⟨by omega, I.cl, ?_, ?_, by rw [hheap]; exact I.go, I.base, I.size, I.defers, ?_, I.old, ?_, ?_⟩⟩
    · intro q hq hE
      by_cases e : q = m
      · subst e; exact hD hE
      · exact I.low q (by omega) hE
    · intro q hq hH hd
      have := I.high q hq hH hd; omega
    · intro q hq hd t ht
      rcases I.set q hq hd t ht with h | h
      · exact .inl (hiff q h)
      · exact .inr h
    · intro q hq h
      obtain ⟨h1, h2, h3, h4⟩ := I.pend q hq (hmono q h)
      exact ⟨h1, h2, h3, by rw [hheap]; exact h4⟩
    · intro q q' hq hq' h h' e; exact I.apart q q' hq hq' (hmono q h) (hmono q' h') e

theorem Inv.advTo (T : Tr call r tr val) (ok : r.Ok) : ∀ (k : Nat) {m : Nat} {β : Beta}, Inv r tr val B0 n β0 w0 D m β a w bl → m + k ≤ r.N → (∀ q, m ≤ q → q < m + k → (r.kind (r.ix q)).isE = true → D (r.ix q)) → ∃ β', Ext β β' ∧ Inv r tr val B0 n β0 w0 D (m + k) β' a w bl
  | 0, m, β, I, _, _ => ⟨β, .refl _, I⟩
  | k + 1, m, β, I, hk, hD => by
    obtain ⟨β1, e1, I1⟩ := I.adv T ok (by omega) (hD m (Nat.le_refl _) (by omega))
    obtain ⟨β2, e2, I2⟩ := Inv.advTo T ok k I1 (by omega) fun q h1 h2 => hD q (by omega) (by omega)
    exact ⟨β2, e1.trans e2, by have : m + (k + 1) = m + 1 + k := by omega
                               rw [this]; exact I2⟩

/-! ### The slots between -/
open Classical in
noncomputable def pl (r : Rg) (tr : Nat → St) (D : Nat → Prop) (m : Nat) : List Nat := (List.range r.N).filterMap fun q => if Pnd r tr D m q then r.dst (r.ix q) else none
theorem mem_pl {t : Nat} : t ∈ pl r tr D m ↔ ∃ q, q < r.N ∧ Pnd r tr D m q ∧ r.dst (r.ix q) = some t := by
  unfold pl
  simp only [List.mem_filterMap, List.mem_range]
  constructor
  · rintro ⟨q, hq, h⟩
    split at h
    · exact ⟨q, hq, ‹_›, h⟩
    · simp at h
  · rintro ⟨q, hq, h1, h2⟩
    exact ⟨q, hq, by rw [if_pos h1]; exact h2⟩
open Classical in
noncomputable def sm (r : Rg) (tr : Nat → St) (D : Nat → Prop) (m : Nat) : Sl := fun t =>
  if t ∈ pl r tr D m then .c .undef else if ∃ q, q < r.N ∧ D (r.ix q) ∧ r.dst (r.ix q) = some t then (tr r.N).1 t else (tr 0).1 t

theorem Inv.sr (T : Tr call r tr val) (ok : r.Ok) (I : Inv r tr val B0 n β0 w0 D m β a w bl) : SR β (sm r tr D m) (clr (pl r tr D m) a) := by
  refine ⟨fun t => ?_⟩
  rw [clr_get]
  unfold sm
  by_cases h : t ∈ pl r tr D m
  · rw [if_pos h, if_pos h]; rfl
  · rw [if_neg h, if_neg h]
    split
    · rename_i hq
      obtain ⟨q, hq, hd, ht⟩ := hq
      rw [T.set ok hq ht r.N hq (Nat.le_refl _)]
      rcases I.set q hq hd t ht with h' | h'
      · exact absurd (mem_pl.2 ⟨q, hq, h', ht⟩) h
      · exact h'
    · rename_i hq
      exact I.old t fun q hq' hd ht => hq ⟨q, hq', hd, ht⟩

/-- What an operation that is ready looks at stands as it does in the static order. -/
theorem Inv.agree (T : Tr call r tr val) (ok : r.Ok) (ha : r.an = ancsOf r.ops.toList) (I : Inv r tr val B0 n β0 w0 D m β a w bl) {p : Nat} (hp : p < r.N) (hn : ¬ D (r.ix p)) (hdeps : ∀ d ∈ r.deps (r.ix p), D d) (hs : r.sync (r.ix p) = true → p ≤ m) {t : Nat} (ht : t ∈ r.lk (r.ix p)) :
    t ∉ pl r tr D m ∧ sm r tr D m t = (tr p).1 t := by
  have hcl' : Closed r.ops.toList (fun i => D i ∨ i = r.ix p) := by
    rintro i o hi (h | rfl) d hd
    · exact .inl (I.cl i o hi h d hd)
    · refine .inl (hdeps d ?_)
      unfold Rg.deps Rg.oper
      have : r.ops[r.ix p]? = some o := by simpa using hi
      rw [Array.getD_eq_getD_getElem?, this]; exact hd
  by_cases hw : ∃ q, q < r.N ∧ r.dst (r.ix q) = some t
  · obtain ⟨q, hq, hd⟩ := hw
    have huniq : ∀ q', q' < r.N → r.dst (r.ix q') = some t → q' = q := fun q' hq' hd' => ok.inj q' q hq' hq (ok.dst _ _ t (ok.lt q' hq') (ok.lt q hq) hd hd')
    have hnotD : ¬ D (r.ix q) → t ∉ pl r tr D m ∧ sm r tr D m t = (tr 0).1 t := by
      intro hnd
      have h1 : t ∉ pl r tr D m := fun h => by
        obtain ⟨q', hq', hpd, hd'⟩ := mem_pl.1 h
        have := huniq q' hq' hd'; subst this
        exact hnd hpd.2.2.1
      refine ⟨h1, ?_⟩
      unfold sm
      rw [if_neg h1, if_neg]
      rintro ⟨q', hq', hD', hd'⟩
      have := huniq q' hq' hd'; subst this
      exact hnd hD'
    by_cases e : r.ix p = r.ix q
    · have hpq := ok.inj p q hp hq e
      subst hpq
      obtain ⟨h1, h2⟩ := hnotD hn
      refine ⟨h1, h2.trans ?_⟩
      rw [T.old ok p (by omega)]
      intro q' hq' hd'
      have := huniq q' (by omega) hd'; omega
    · rcases (ok.look _ _ t (ok.lt p hp) (ok.lt q hq) hd ht).2 e with h | ⟨h, _⟩
      · -- it is written before
        have hle := Rg.lt_pos ha ok hp hq h
        have hne : q ≠ p := fun e' => e (by rw [e'])
        have hDq : D (r.ix q) := by
          rcases Rg.lt_closed ha hcl' h (.inr rfl) with h' | h'
          · exact h'
          · exact absurd h'.symm e
        have h1 : t ∉ pl r tr D m := fun h' => by
          obtain ⟨q', hq', hpd, hd'⟩ := mem_pl.1 h'
          have := huniq q' hq' hd'; subst this
          have hlA : r.looksA (r.ix p) = true := by
            unfold Rg.looksA
            refine List.any_eq_true.2 ⟨r.ix q', List.mem_range.2 (ok.lt q' hq'), ?_⟩
            rw [hpd.2.1, hd]
            simpa using ht
          have := hs (by unfold Rg.sync; rw [hlA]; simp)
          have := hpd.1
          omega
        refine ⟨h1, ?_⟩
        unfold sm
        rw [if_neg h1, if_pos ⟨q, hq, hDq, hd⟩, T.set ok hq hd r.N hq (Nat.le_refl _), T.set ok hq hd p (by omega) (by omega)]
      · -- it is written after
        have hle := Rg.lt_pos ha ok hq hp h
        obtain ⟨h1, h2⟩ := hnotD fun hDq => hn (Rg.lt_closed ha I.cl h hDq)
        refine ⟨h1, h2.trans ?_⟩
        rw [T.old ok p (by omega)]
        intro q' hq' hd'
        have := huniq q' (by omega) hd'; omega
  · have hno : ∀ q, q < r.N → r.dst (r.ix q) ≠ some t := fun q hq hd => hw ⟨q, hq, hd⟩
    have h1 : t ∉ pl r tr D m := fun h => by
      obtain ⟨q', hq', _, hd'⟩ := mem_pl.1 h
      exact hno q' hq' hd'
    refine ⟨h1, ?_⟩
    unfold sm
    rw [if_neg h1, if_neg (fun ⟨q', hq', _, hd'⟩ => hno q' hq' hd'), T.old ok p (by omega) fun q hq => hno q (by omega)]
end
end Go.Proofs.YtmockobmiagbcaaDoor.VI

set_option linter.unusedVariables false
set_option linter.unusedSimpArgs false
set_option linter.unusedSectionVars false
namespace Go.Proofs.YtmockobmiagbcaaDoor.VI
open Go Go.RowKit

section
variable {call : CallA} {r : Rg} {tr : Nat → St} {val : Nat → AV} {B0 n : Nat} {β0 : Beta} {w0 : World} {D : Nat → Prop} {m : Nat} {β : Beta} {a : Act} {w : World} {bl : Nat → Nat}

theorem closed_more (I : Inv r tr val B0 n β0 w0 D m β a w bl) {p : Nat} (hdeps : ∀ d ∈ r.deps (r.ix p), D d) : Closed r.ops.toList (fun i => D i ∨ i = r.ix p) := by
  rintro i o hi (h | rfl) d hd
  · exact .inl (I.cl i o hi h d hd)
  · refine .inl (hdeps d ?_)
    unfold Rg.deps Rg.oper
    have : r.ops[r.ix p]? = some o := by simpa using hi
    rw [Array.getD_eq_getD_getElem?, this]; exact hd

/-- Behind an operation that leaves no block aside. -/
theorem Inv.next (ok : r.Ok) (I : Inv r tr val B0 n β0 w0 D m β a w bl) {p : Nat} (hp : p < r.N) (hn : ¬ D (r.ix p)) (hdeps : ∀ d ∈ r.deps (r.ix p), D d) (hdst : ∀ d, r.dst (r.ix p) = some d → d < n) {m' : Nat} (hm : m ≤ m') (hmN : m' ≤ r.N)
    (hlow : ∀ q, q < m' → (r.kind (r.ix q)).isE = true → D (r.ix q) ∨ q = p) (hhigh : (r.kind (r.ix p)).isH = true → p < m') (hnp : (r.kind (r.ix p)).isA = true → wantA (tr p).1 (r.ko (r.ix p)).g = true → p < m') (hkeep : ∀ q, m ≤ q → q ≠ p → m' ≤ q)
    {β' : Beta} {w' : World} (g : Go_ B0 β (tr m).2 w β' (tr m').2 w') {x : Value} (hx : (val p).rel β' x) : Inv r tr val B0 n β0 w0 (fun i => D i ∨ i = r.ix p) m' β' (a.put (r.dst (r.ix p)) x) w' bl := by
  have hD' : ∀ q, q < r.N → (D (r.ix q) ∨ r.ix q = r.ix p) → q ≠ p → D (r.ix q) := fun q hq h hne => h.resolve_right fun e => hne (ok.inj q p hq hp e)
  have hback : ∀ q, q < r.N → Pnd r tr (fun i => D i ∨ i = r.ix p) m' q → q ≠ p ∧ Pnd r tr D m q := fun q hq h => by
    have hne : q ≠ p := fun e => by
      subst e
      have := hnp h.2.1 h.2.2.2
      have := h.1; omega
    exact ⟨hne, ⟨by have := h.1; omega, h.2.1, hD' q hq h.2.2.1 hne, h.2.2.2⟩⟩
  have hfwd : ∀ q, q ≠ p → Pnd r tr D m q → Pnd r tr (fun i => D i ∨ i = r.ix p) m' q := fun q hne h => ⟨hkeep q h.1 hne, h.2.1, .inl h.2.2.1, h.2.2.2⟩
  refine ⟨hmN, closed_more I hdeps, ?_, ?_, I.go.trans g, I.base, by rw [put_size]; exact I.size, by rw [put_defers']; exact I.defers, ?_, ?_, ?_, ?_⟩
  · intro q hq hE
    rcases hlow q hq hE with h | h
    · exact .inl h
    · exact .inr (by rw [h])
  · intro q hq hH hd
    by_cases e : q = p
    · subst e; exact hhigh hH
    · have := I.high q hq hH (hD' q hq hd e); omega
  · intro q hq hd t ht
    by_cases e : q = p
    · subst e
      refine .inr ?_
      rw [ht, put_get_same (by rw [I.size]; exact hdst t ht)]
      exact hx
    · have hne : r.dst (r.ix p) ≠ some t := fun h => e (ok.inj q p hq hp (ok.dst _ _ t (ok.lt q hq) (ok.lt p hp) h ht))
      rw [put_get_ne hne]
      rcases I.set q hq (hD' q hq hd e) t ht with h | h
      · exact .inl (hfwd q e h)
      · exact .inr (AV.rel_ext g.ext h)
  · intro t ht
    have hne : r.dst (r.ix p) ≠ some t := ht p hp (.inr rfl)
    rw [put_get_ne hne]
    exact AV.rel_ext g.ext (I.old t fun q hq hd => ht q hq (.inl hd))
  · intro q hq h
    obtain ⟨hne, h0⟩ := hback q hq h
    obtain ⟨⟨e, cs, xs, h1, h2, h3, h4⟩, h5, h6, h7⟩ := I.pend q hq h0
    refine ⟨⟨e, cs, xs, h1, ?_, h3.ext g.ext, fun t ht β1 hb => ?_⟩, Nat.lt_of_lt_of_le h5 g.below.size, h6, fun ho => h7 (g.sub _ h5 ho)⟩
    · rw [g.fr _ h5 h7]; exact h2
    · have hne' : r.dst (r.ix p) ≠ some t := fun h => hne (ok.inj q p hq hp (ok.dst _ _ t (ok.lt q hq) (ok.lt p hp) h ht))
      rw [put_get_ne hne']
      exact h4 t ht β1 hb
  · intro q q' hq hq' h h' e
    exact I.apart q q' hq hq' (hback q hq h).2 (hback q' hq' h').2 e

/-- Behind an operation whose block is left aside. -/
theorem Inv.nextA (ok : r.Ok) (I : Inv r tr val B0 n β0 w0 D m β a w bl) {p : Nat} (hp : p < r.N) (hmp : m ≤ p) (hn : ¬ D (r.ix p)) (hdeps : ∀ d ∈ r.deps (r.ix p), D d) (hdst : ∀ d, r.dst (r.ix p) = some d → d < n) (hA : (r.kind (r.ix p)).isA = true) (hw : wantA (tr p).1 (r.ko (r.ix p)).g = true)
    {e : TypeId} {cs : List CV} {xs : List Value} {x : Value} (h1 : (tr (p + 1)).2 = (tr p).2 ++ [some ⟨e, cs, .own⟩]) (hc : Cells β cs xs) (hx : ∀ β1 : Beta, β1[(tr p).2.length]? = some (w.heap.size, 0, xs.length) → (val p).rel β1 x) :
    Inv r tr val B0 n β0 w0 (fun i => D i ∨ i = r.ix p) m β (a.put (r.dst (r.ix p)) x) (w.alloc (.cells xs.toArray e (0, 0))) (fun q => if q = p then w.heap.size else bl q) := by
  have hD' : ∀ q, q < r.N → (D (r.ix q) ∨ r.ix q = r.ix p) → q ≠ p → D (r.ix q) := fun q hq h hne => h.resolve_right fun e => hne (ok.inj q p hq hp e)
  have hback : ∀ q, q < r.N → q ≠ p → Pnd r tr (fun i => D i ∨ i = r.ix p) m q → Pnd r tr D m q := fun q hq hne h => ⟨h.1, h.2.1, hD' q hq h.2.2.1 hne, h.2.2.2⟩
  have g := I.go.hr.aside (.cells xs.toArray e (0, 0))
  refine ⟨I.le, closed_more I hdeps, fun q hq hE => .inl (I.low q hq hE), ?_, I.go.trans g, I.base, by rw [put_size]; exact I.size, by rw [put_defers']; exact I.defers, ?_, ?_, ?_, ?_⟩
  · intro q hq hH hd
    by_cases e : q = p
    · subst e
      cases hk : r.kind (r.ix q) <;> rw [hk] at hA hH <;> simp [Kind.isA, Kind.isH] at hA hH
    · exact I.high q hq hH (hD' q hq hd e)
  · intro q hq hd t ht
    by_cases e : q = p
    · subst e; exact .inl ⟨hmp, hA, .inr rfl, hw⟩
    · have hne : r.dst (r.ix p) ≠ some t := fun h => e (ok.inj q p hq hp (ok.dst _ _ t (ok.lt q hq) (ok.lt p hp) h ht))
      rw [put_get_ne hne]
      rcases I.set q hq (hD' q hq hd e) t ht with h | h
      · exact .inl ⟨h.1, h.2.1, .inl h.2.2.1, h.2.2.2⟩
      · exact .inr h
  · intro t ht
    have hne : r.dst (r.ix p) ≠ some t := ht p hp (.inr rfl)
    rw [put_get_ne hne]
    exact I.old t fun q hq hd => ht q hq (.inl hd)
  · intro q hq h
    by_cases e' : q = p
    · subst e'
      simp only [if_true]
      refine ⟨⟨e, cs, xs, h1, alloc_heap_new w _, hc, fun t ht β1 hb => ?_⟩, by rw [alloc_size]; omega, I.go.below.size, fun ho => ?_⟩
      · rw [ht, put_get_same (by rw [I.size]; exact hdst t ht)]
        exact hx β1 hb
      · have := I.go.hr.lt ho; omega
    · rw [if_neg e']
      obtain ⟨⟨e2, cs2, xs2, k1, k2, k3, k4⟩, h5, h6, h7⟩ := I.pend q hq (hback q hq e' h)
      refine ⟨⟨e2, cs2, xs2, k1, by rw [alloc_heap_lt w _ h5]; exact k2, k3, fun t ht β1 hb => ?_⟩, by rw [alloc_size]; omega, h6, h7⟩
      have hne' : r.dst (r.ix p) ≠ some t := fun h => e' (ok.inj q p hq hp (ok.dst _ _ t (ok.lt q hq) (ok.lt p hp) h ht))
      rw [put_get_ne hne']
      exact k4 t ht β1 hb
  · intro q q' hq hq' h h' he
    by_cases e1 : q = p <;> by_cases e2 : q' = p
    · rw [e1, e2]
    · simp only [e1, e2, if_true, if_false] at he
      have := (I.pend q' hq' (hback q' hq' e2 h')).lt
      omega
    · simp only [e1, e2, if_true, if_false] at he
      have := (I.pend q hq (hback q hq e1 h)).lt
      omega
    · simp only [e1, e2, if_false] at he
      exact I.apart q q' hq hq' (hback q hq e1 h) (hback q' hq' e2 h') he

/-- One operation, in whatever order. -/
theorem Inv.step {P : Program} (hcall : CallOk P call) (T : Tr call r tr val) (ok : r.Ok) (ha : r.an = ancsOf r.ops.toList) (hko : ∀ i, i < r.N → r.ops[i]? = some (r.oper i) ∧ cOper P n r.ops (r.oper i) = some (r.ko i))
    (I : Inv r tr val B0 n β0 w0 D m β a w bl) {p : Nat} (hp : p < r.N) (hn : ¬ D (r.ix p)) (hdeps : ∀ d ∈ r.deps (r.ix p), D d) {K : Act → World → Prop} {Q : Exit → Act → World → Prop}
    (hK : ∀ m' β' a' w' bl', Inv r tr val B0 n β0 w0 (fun i => D i ∨ i = r.ix p) m' β' a' w' bl' → K a' w') : wpOp P r.ops Q (r.ix p) K a w := by
  have hcl' := closed_more I hdeps
  obtain ⟨hop, hco⟩ := hko (r.ix p) (ok.lt p hp)
  obtain ⟨hd1, _, hd2⟩ := cOper_parts hco
  have hdst : ∀ d, r.dst (r.ix p) = some d → d < n := fun d hd => hd2 d (by rw [← hd1]; exact hd)
  -- the level
  have hlev : ∃ m1 β1, Inv r tr val B0 n β0 w0 D m1 β1 a w bl ∧ (r.sync (r.ix p) = true → p ≤ m1) := by
    by_cases hs : r.sync (r.ix p) = true
    · by_cases hmp : p ≤ m
      · exact ⟨m, β, I, fun _ => hmp⟩
      · obtain ⟨β1, _, I1⟩ := I.advTo T ok (p - m) (by omega) (fun q h1 h2 hE => by
          have hlt := ok.sync p hp hs q (by omega) hE
          rcases Rg.lt_closed ha hcl' hlt (.inr rfl) with h | h
          · exact h
          · have := ok.inj q p (by omega) hp h; omega)
        exact ⟨m + (p - m), β1, I1, fun _ => by omega⟩
    · exact ⟨m, β, I, fun h => absurd h hs⟩
  obtain ⟨m, β, I, hs⟩ := hlev
  have hag : ∀ t ∈ r.lk (r.ix p), t ∉ pl r tr D m ∧ sm r tr D m t = (tr p).1 t := fun t ht => I.agree T ok ha hp hn hdeps hs ht
  have hsr := I.sr T ok
  have hps : ∀ t ∈ pl r tr D m, t ∉ (r.oper (r.ix p)).looksAt r.ops := fun t ht h => (hag t (by unfold Rg.lk; simp [h])).1 ht
  have hsl : ∀ t ∈ (r.ko (r.ix p)).lk, sm r tr D m t = (tr p).1 t := fun t ht => (hag t (by unfold Rg.lk; simp [ht])).2
  have hst := T.step p hp
  have hput : ∀ (x : Value), a.put (r.oper (r.ix p)).dst x = a.put (r.dst (r.ix p)) x := fun x => by rw [show r.dst (r.ix p) = (r.oper (r.ix p)).dst from hd1]
  -- an operation of the kind E lies at the level or above
  have habove : (r.kind (r.ix p)).isE = true → m ≤ p := fun hE => by
    rcases Nat.lt_or_ge p m with h | h
    · exact absurd (I.low p h hE) hn
    · exact h
  -- what stays at the level
  have stay : (r.kind (r.ix p)).isH = false → ((r.kind (r.ix p)).isA = true → ¬ wantA (tr p).1 (r.ko (r.ix p)).g = true) → resKO call (r.ko (r.ix p)) (sm r tr D m) (tr m).2 = some (val p, (tr m).2) → wpOp P r.ops Q (r.ix p) K a w := by
    intro hH hA hres
    refine wpOp_res hcall hsr I.go.hr hop hco hps hres fun β' x w' hv g => ?_
    rw [hput]
    refine hK m β' _ w' bl (I.next ok hp hn hdeps hdst (Nat.le_refl _) I.le (fun q hq hE => .inl (I.low q hq hE)) (fun h => by rw [hH] at h; simp at h) (fun h h' => absurd h' (hA h)) (fun q h _ => h) g hv)
  cases hk : r.kind (r.ix p) with
  | P =>
    refine stay (by rw [hk]; rfl) (fun h => by rw [hk] at h; simp [Kind.isA] at h) ?_
    rw [res_congr hsl]
    exact res_pure (show (r.ko (r.ix p)).op.kind = .P from hk) hst _
  | L =>
    refine stay (by rw [hk]; rfl) (fun h => by rw [hk] at h; simp [Kind.isA] at h) ?_
    have hL : (r.kind (r.ix p)).isL = true := by rw [hk]; rfl
    have hpm : p ≤ m := hs (by unfold Rg.sync; rw [hL]; simp)
    refine T.reload ok ha hp hL hsl m hpm I.le fun q h1 h2 hE => ?_
    have hDq := I.low q h2 hE
    cases hlt : r.lt (r.ix p) (r.ix q) with
    | false => rfl
    | true => exact absurd (Rg.lt_closed ha I.cl hlt hDq) hn
  | H =>
    have hE : (r.kind (r.ix p)).isE = true := by rw [hk]; rfl
    have hpm : p ≤ m := hs (by unfold Rg.sync; rw [hk]; simp [Kind.isH])
    have hmp := habove hE
    have : m = p := by omega
    subst this
    have hres : resKO call (r.ko (r.ix m)) (sm r tr D m) (tr m).2 = some (val m, (tr (m + 1)).2) := by rw [res_congr hsl]; exact hst
    refine wpOp_res hcall hsr I.go.hr hop hco hps hres fun β' x w' hv g => ?_
    rw [hput]
    refine hK (m + 1) β' _ w' bl (I.next ok hp hn hdeps hdst (by omega) (by omega) (fun q hq hE => ?_) (fun _ => by omega) (fun _ _ => by omega) (fun q h hne => by omega) g hv)
    by_cases e : q = m
    · exact .inr e
    · exact .inl (I.low q (by omega) hE)
  | A =>
    have hA : (r.kind (r.ix p)).isA = true := by rw [hk]; rfl
    have hE : (r.kind (r.ix p)).isE = true := by rw [hk]; rfl
    by_cases hw : wantA (tr p).1 (r.ko (r.ix p)).g = true
    · have hkA : (r.ko (r.ix p)).op.kind = .A := hk
      have hwσ : wantA (sm r tr D m) (r.ko (r.ix p)).g = true := by rw [want_congr' hsl]; exact hw
      have hst' : resKO call (r.ko (r.ix p)) (sm r tr D m) (tr p).2 = some (val p, (tr (p + 1)).2) := by rw [res_congr hsl]; exact hst
      refine wpOp_alloc hsr hop hco hps hkA hwσ hst' fun e cs xs x h1 h2 h3 => ?_
      rw [hput]
      exact hK m β _ _ _ (I.nextA ok hp (habove hE) hn hdeps hdst hA hw h1 h2 h3)
    · refine stay (by rw [hk]; rfl) (fun _ => hw) ?_
      rw [res_congr hsl]
      have h3 := res_unwanted hw hst
      exact h3.2.2 _
end
end Go.Proofs.YtmockobmiagbcaaDoor.VI

set_option linter.unusedVariables false
set_option linter.unusedSimpArgs false
set_option linter.unusedSectionVars false
namespace Go.Proofs.YtmockobmiagbcaaDoor.VI
open Go Go.RowKit

theorem filter_less {α : Type} {p q : α → Bool} (h : ∀ x, q x = true → p x = true) {x0 : α} (h1 : p x0 = true) (h2 : q x0 = false) : ∀ {l : List α}, x0 ∈ l → (l.filter q).length < (l.filter p).length := by
  have le : ∀ l : List α, (l.filter q).length ≤ (l.filter p).length := by
    intro l
    induction l with
    | nil => simp
    | cons x l ih =>
      simp only [List.filter_cons]
      by_cases hq : q x = true
      · rw [if_pos hq, if_pos (h x hq)]; simp; exact ih
      · rw [if_neg hq]; split
        · simp; omega
        · exact ih
  intro l
  induction l with
  | nil => intro h; simp at h
  | cons x l ih =>
    intro hx
    simp only [List.filter_cons]
    rcases List.mem_cons.1 hx with rfl | hx
    · rw [if_pos h1, if_neg (by rw [h2]; simp)]
      have := le l
      simp; omega
    · have := ih hx
      by_cases hq : q x = true
      · rw [if_pos hq, if_pos (h x hq)]; simp; exact this
      · rw [if_neg hq]; split
        · simp; omega
        · exact this

section
variable {P : Program} {call : CallA} {r : Rg} {tr : Nat → St} {val : Nat → AV} {B0 n : Nat} {β0 : Beta} {w0 : World}

def Done (l : Array Bool) (i : Nat) : Prop := l.getD i false = true
theorem done_set {l : Array Bool} {i : Nat} (hi : i < l.size) : Done (l.setIfInBounds i true) = fun j => Done l j ∨ j = i := by
  funext j
  unfold Done
  simp only [Array.getD_eq_getD_getElem?, Array.getElem?_setIfInBounds]
  by_cases h : i = j
  · subst h; simp [hi]
  · have : ¬ j = i := fun e => h e.symm
    simp [h, this]
theorem not_done {l : Array Bool} {i : Nat} (h : l.getD i true = false) : ¬ Done l i := by
  unfold Done
  rw [Array.getD_eq_getD_getElem?] at h ⊢
  cases hl : l[i]? with
  | none => rw [hl] at h; simp at h
  | some b => rw [hl] at h; simp at h; subst h; simp

theorem ready_iff {l : Array Bool} {i : Nat} : i ∈ Region.ready .any r.ops l ↔ i < r.N ∧ l.getD i true = false ∧ ∀ d ∈ r.deps i, Done l d := by
  unfold Region.ready
  simp only [List.mem_filter, List.mem_range, Bool.and_eq_true, Bool.not_eq_true']
  constructor
  · rintro ⟨h1, h2, h3⟩
    refine ⟨h1, h2, fun d hd => ?_⟩
    have ho : r.ops[i]? = some (r.oper i) := by
      unfold Rg.oper; rw [Array.getD_eq_getD_getElem?]
      have : i < r.ops.size := h1
      simp [this]
    rw [ho] at h3
    simp only [Option.map_some, Option.getD_some, Array.all_eq_true'] at h3
    unfold Rg.deps depsO at hd
    simp only [List.mem_map, List.mem_filter] at hd
    obtain ⟨e, ⟨he, hb⟩, rfl⟩ := hd
    have := h3 e (by simpa using he)
    rw [hb] at this
    simpa [Done] using this
  · rintro ⟨h1, h2, h3⟩
    refine ⟨h1, h2, ?_⟩
    have ho : r.ops[i]? = some (r.oper i) := by
      unfold Rg.oper; rw [Array.getD_eq_getD_getElem?]
      have : i < r.ops.size := h1
      simp [this]
    rw [ho]
    simp only [Option.map_some, Option.getD_some, Array.all_eq_true']
    intro e he
    by_cases hb : Region.binds .any e = true
    · have := h3 e.on (by unfold Rg.deps depsO; exact List.mem_map.2 ⟨e, List.mem_filter.2 ⟨by simpa using he, hb⟩, rfl⟩)
      unfold Done at this
      simp [this]
    · simp [hb]

theorem drawn_any (hcall : CallOk P call) (T : Tr call r tr val) (ok : r.Ok) (ha : r.an = ancsOf r.ops.toList) (hko : ∀ i, i < r.N → r.ops[i]? = some (r.oper i) ∧ cOper P n r.ops (r.oper i) = some (r.ko i)) {Q : Exit → Act → World → Prop}
    (hQ : ∀ β' a' w', SR β' (tr r.N).1 a' → a'.tmps.size = n → a'.defers = [] → Go_ B0 β0 (tr 0).2 w0 β' (tr r.N).2 w' → Q .normal a' w') :
    ∀ (fuel : Nat) (l : Array Bool) (m : Nat) (β : Beta) (a : Act) (w : World) (bl : Nat → Nat), l.size = r.N → ((List.range r.N).filter fun i => !l.getD i true).length ≤ fuel → Inv r tr val B0 n β0 w0 (Done l) m β a w bl → wpAny P .any r.ops Q fuel l a w := by
  have hend : ∀ (l : Array Bool) (m : Nat) (β : Beta) (a : Act) (w : World) (bl : Nat → Nat), l.size = r.N → Inv r tr val B0 n β0 w0 (Done l) m β a w bl → Region.ready .any r.ops l = [] → Q .normal a w := by
    intro l m β a w bl hl I hr
    have hall : ∀ p, p < r.N → Done l (r.ix p) := by
      intro p
      induction p using Nat.strongRecOn with
      | _ p ih =>
        intro hp
        cases hb : l.getD (r.ix p) true with
        | true =>
          unfold Done
          have : r.ix p < l.size := by rw [hl]; exact ok.lt p hp
          simp only [Array.getD_eq_getD_getElem?] at hb ⊢
          simp [this] at hb ⊢
          exact hb
        | false =>
          have hmem : r.ix p ∈ Region.ready .any r.ops l := ready_iff.2 ⟨ok.lt p hp, hb, fun d hd => by
            obtain ⟨q, hq, rfl⟩ := ok.deps p hp d hd
            exact ih q hq (by omega)⟩
          rw [hr] at hmem; simp at hmem
    obtain ⟨β1, _, I1⟩ := I.advTo T ok (r.N - m) (by have := I.le; omega) fun q _ hq _ => hall q (by have := I.le; omega)
    have hN : m + (r.N - m) = r.N := by have := I.le; omega
    rw [hN] at I1
    have hpl : pl r tr (Done l) r.N = [] := by
      cases hh : pl r tr (Done l) r.N with
      | nil => rfl
      | cons t ts =>
        obtain ⟨q, hq, hp, _⟩ := mem_pl.1 (show t ∈ pl r tr (Done l) r.N by rw [hh]; simp)
        have := hp.1; omega
    have hsr := I1.sr T ok
    rw [hpl] at hsr
    have hsm : sm r tr (Done l) r.N = (tr r.N).1 := by
      funext t
      unfold sm
      rw [hpl]
      simp only [List.not_mem_nil, if_false]
      split
      · rfl
      · rename_i hno
        rw [T.old ok r.N (Nat.le_refl _)]
        intro q hq hd
        exact hno ⟨q, hq, hall q hq, hd⟩
    rw [hsm] at hsr
    exact hQ β1 a w hsr I1.size I1.defers I1.go
  intro fuel
  induction fuel with
  | zero =>
    intro l m β a w bl hl hc I
    have hr : Region.ready .any r.ops l = [] := by
      cases hh : Region.ready .any r.ops l with
      | nil => rfl
      | cons i is =>
        obtain ⟨h1, h2, _⟩ := ready_iff.1 (show i ∈ Region.ready .any r.ops l by rw [hh]; simp)
        have : i ∈ (List.range r.N).filter fun i => !l.getD i true := List.mem_filter.2 ⟨List.mem_range.2 h1, by rw [h2]; rfl⟩
        have := List.length_pos_of_mem this
        omega
    exact ⟨hr, hend l m β a w bl hl I hr⟩
  | succ fuel ih =>
    intro l m β a w bl hl hc I
    refine ⟨hend l m β a w bl hl I, fun i hi => ?_⟩
    obtain ⟨h1, h2, h3⟩ := ready_iff.1 hi
    obtain ⟨p, hp, rfl⟩ := ok.surj i h1
    refine I.step hcall T ok ha hko hp (not_done h2) h3 fun m' β' a' w' bl' I' => ?_
    refine ih _ m' β' a' w' bl' (by simpa using hl) ?_ (by rw [done_set (by rw [hl]; exact h1)]; exact I')
    have := filter_less (p := fun i => !l.getD i true) (q := fun i => !(l.setIfInBounds (r.ix p) true).getD i true) (x0 := r.ix p) (fun x hx => by
      simp only [Bool.not_eq_true', Array.getD_eq_getD_getElem?, Array.getElem?_setIfInBounds] at hx ⊢
      by_cases e : r.ix p = x
      · subst e
        have : r.ix p < l.size := by rw [hl]; exact h1
        simp [this] at hx
      · rw [if_neg e] at hx; exact hx) (by rw [h2]; rfl) (by
      have : r.ix p < l.size := by rw [hl]; exact h1
      simp [Array.getD_eq_getD_getElem?, this]) (l := List.range r.N) (List.mem_range.2 h1)
    omega
end

theorem cOpers_get {P : Program} {n : Nat} {ops : Array Oper} : ∀ {l : List Oper} {ks : List KO}, cOpers P n ops l = some ks → ks.length = l.length ∧ ∀ (i : Nat) (o : Oper), l[i]? = some o → ∃ k, ks[i]? = some k ∧ cOper P n ops o = some k
  | [], ks, h => by simp [cOpers] at h; subst h; exact ⟨rfl, fun i o h => by simp at h⟩
  | o :: l, ks, h => by
    unfold cOpers at h
    split at h
    case h_2 => simp at h
    rename_i k ks' h1 h2
    simp at h; subst h
    obtain ⟨h3, h4⟩ := cOpers_get h2
    refine ⟨by simp [h3], fun i o' ho => ?_⟩
    cases i with
    | zero => simp at ho; subst ho; exact ⟨k, rfl, h1⟩
    | succ i => simp at ho; simpa using h4 i o' ho

theorem drawn_ok {P : Program} (hm : P.follows .mixedOrders = true) {call : CallA} (hcall : CallOk P call) (n : Nat) : DrawnOk P call n := by
  intro id ops k hk fuel B0 β σ H ex σ' H' a w Q he hs hn hd hr hQ
  unfold cDrawn at hk
  split at hk
  case h_2 => simp at hk
  rename_i ks hks
  simp only at hk
  generalize hrr : (⟨ops, ks, ancsOf ops.toList, Rg.order ⟨ops, ks, ancsOf ops.toList, []⟩ ops.size [] (List.range ops.size)⟩ : Rg) = r at hk
  split at hk
  case isFalse => simp at hk
  rename_i hok
  simp at hk; subst hk
  have e1 : r.ops = ops := by rw [← hrr]
  have e2 : r.ks = ks := by rw [← hrr]
  have ha : r.an = ancsOf r.ops.toList := by rw [← hrr]
  have ok := Rg.ok_of hok
  simp only [evalC, Option.map_eq_some_iff] at he
  obtain ⟨s1, he, e3⟩ := he
  simp only [Prod.mk.injEq] at e3
  obtain ⟨rfl, rfl⟩ := e3
  obtain ⟨tr, val, T, t0, t1⟩ := trace_of he ok.len
  obtain ⟨hl, hg⟩ := cOpers_get hks
  have hko : ∀ i, i < r.N → r.ops[i]? = some (r.oper i) ∧ cOper P n r.ops (r.oper i) = some (r.ko i) := by
    intro i hi
    have ho : r.ops[i]? = some (r.oper i) := by
      unfold Rg.oper; rw [Array.getD_eq_getD_getElem?]
      have : i < r.ops.size := hi
      simp [this]
    refine ⟨ho, ?_⟩
    obtain ⟨k, h1, h2⟩ := hg i (r.oper i) (by rw [e1] at ho; simpa using ho)
    have : r.ko i = k := by
      unfold Rg.ko; rw [List.getD_eq_getElem?_getD, e2, h1]; rfl
    rw [this, e1]; exact h2
  have hw : ({ w with drawn := w.drawn + 1 } : World) = w.drewN 1 := rfl
  refine wp_region_any hm ?_
  rw [hw, ← e1]
  have hinv : Inv r tr val B0 n β (w.drewN 1) (Done (Array.replicate r.ops.size false)) 0 β a (w.drewN 1) (fun _ => 0) := by
    have hno : ∀ i, ¬ Done (Array.replicate r.ops.size false) i := by
      intro i h
      unfold Done at h
      rw [Array.getD_eq_getD_getElem?] at h
      by_cases hi : i < r.ops.size
      · simp [hi] at h
      · simp [hi] at h
    refine ⟨Nat.zero_le _, fun i o _ h => absurd h (hno i), fun q hq => by omega, fun q _ _ h => absurd h (hno _), ?_, ?_, hn, hd, fun q _ h => absurd h (hno _), fun t _ => ?_, fun q _ h => absurd h.2.2.1 (hno _), fun q q' _ _ h => absurd h.2.2.1 (hno _)⟩
    · rw [t0]; exact .refl (hr.drewN 1)
    · exact (hr.drewN 1).base
    · rw [t0]; exact hs.at_ t
  refine drawn_any hcall T ok ha hko (fun β' a' w' h1 h2 h3 h4 => ?_) r.ops.size _ 0 β a (w.drewN 1) _ (by simp [Rg.N]) ?_ hinv
  · rw [t0, t1] at h4
    rw [t1] at h1
    exact hQ β' a' w' h1 h2 h3 ((Go_.drewN hr 1).trans h4)
  · refine Nat.le_trans (List.length_filter_le _ _) ?_
    simp [Rg.N]
end Go.Proofs.YtmockobmiagbcaaDoor.VI
