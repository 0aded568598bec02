/- An interpreter over an abstract heap, and its soundness over the machine: part Drawn. -/
import Derived.Test.YtebdajfangbdpaaViSound6
set_option linter.unusedVariables false
set_option linter.unusedSimpArgs false
set_option linter.unusedSectionVars false
namespace Go.Proofs.Ytebdajfangbdpaa.VI
open Go Go.RowKit

/-! ### An operation looks at its slots alone -/
section
variable {call : CallA} {σ σ2 : Sl} {H : AHeap}
theorem opd_congr {x : Opd} (h : ∀ t ∈ x.lk, σ t = σ2 t) : x.ev σ = x.ev σ2 := by
  cases x with
  | t n => exact h n (by simp [Opd.lk])
  | k v => rfl
theorem optInt_congr {x : Option Opd} (h : ∀ t ∈ lkO x, σ t = σ2 t) : optInt σ x = optInt σ2 x := by
  cases x with
  | none => rfl
  | some x => simp only [optInt, opd_congr (x := x) h]
theorem parts_congr : ∀ {l : List (Nat × Nat × Opd)}, (∀ t ∈ lkParts l, σ t = σ2 t) → partsA σ l = partsA σ2 l
  | [], _ => rfl
  | (o, n, x) :: l, h => by
    simp only [partsA]
    rw [opd_congr (x := x) (fun t ht => h t (by simp [lkParts]; exact .inl ht)), parts_congr (l := l) (fun t ht => h t (by simp [lkParts] at ht ⊢; exact .inr ht))]
theorem caps_congr : ∀ {l : List Opd}, (∀ t ∈ lks l, σ t = σ2 t) → capsA σ l = capsA σ2 l
  | [], _ => rfl
  | x :: l, h => by
    simp only [capsA]
    rw [opd_congr (x := x) (fun t ht => h t (by simp [lks]; exact .inl ht)), caps_congr (l := l) (fun t ht => h t (by simp [lks] at ht ⊢; exact .inr ht))]
theorem map_congr' : ∀ {l : List Opd}, (∀ t ∈ lks l, σ t = σ2 t) → l.map (Opd.ev σ) = l.map (Opd.ev σ2)
  | [], _ => rfl
  | x :: l, h => by
    simp only [List.map_cons]
    rw [opd_congr (x := x) (fun t ht => h t (by simp [lks]; exact .inl ht)), map_congr' (l := l) (fun t ht => h t (by simp [lks] at ht ⊢; exact .inr ht))]
theorem evalOp_congr {k : KOp} (h : ∀ t ∈ k.lk, σ t = σ2 t) : evalOp call σ H k = evalOp call σ2 H k := by
  cases k <;> simp only [KOp.lk, List.mem_append] at h <;> simp only [evalOp]
  case mov x => rw [opd_congr h]
  case pick c a b => rw [opd_congr (x := c) fun t ht => h t (.inl ht), opd_congr (x := a) fun t ht => h t (.inr (.inl ht)), opd_congr (x := b) fun t ht => h t (.inr (.inr ht))]
  case box e x => rw [opd_congr h]
  case build z p => rw [parts_congr h]
  case buildSl e l z p => rw [parts_congr h]
  case load1 a => rw [opd_congr h]
  case loadN n a => rw [opd_congr h]
  case store n a x => rw [opd_congr (x := a) fun t ht => h t (.inl ht), opd_congr (x := x) fun t ht => h t (.inr ht)]
  case nilchk x => rw [opd_congr h]
  case bin op q x y => rw [opd_congr (x := x) fun t ht => h t (.inl ht), opd_congr (x := y) fun t ht => h t (.inr ht)]
  case un op x => rw [opd_congr h]
  case conv k x => rw [opd_congr h]
  case convBS x => rw [opd_congr h]
  case idxN l s x i => rw [opd_congr (x := x) fun t ht => h t (.inl ht), opd_congr (x := i) fun t ht => h t (.inr ht)]
  case idx1 l x i => rw [opd_congr (x := x) fun t ht => h t (.inl ht), opd_congr (x := i) fun t ht => h t (.inr ht)]
  case idxStr x i => rw [opd_congr (x := x) fun t ht => h t (.inl ht), opd_congr (x := i) fun t ht => h t (.inr ht)]
  case idxA l s x i => rw [opd_congr (x := x) fun t ht => h t (.inl ht), opd_congr (x := i) fun t ht => h t (.inr ht)]
  case idxS s x i => rw [opd_congr (x := x) fun t ht => h t (.inl ht), opd_congr (x := i) fun t ht => h t (.inr ht)]
  case fldA o x => rw [opd_congr h]
  case fldN o n x => rw [opd_congr h]
  case fld1 o x => rw [opd_congr h]
  case sliceS s x a b c => rw [opd_congr (x := x) fun t ht => h t (.inl ht), optInt_congr (x := a) fun t ht => h t (.inr (.inl ht)), optInt_congr (x := b) fun t ht => h t (.inr (.inr (.inl ht))), optInt_congr (x := c) fun t ht => h t (.inr (.inr (.inr ht)))]
  case sliceStr x a b => rw [opd_congr (x := x) fun t ht => h t (.inl ht), optInt_congr (x := a) fun t ht => h t (.inr (.inl ht)), optInt_congr (x := b) fun t ht => h t (.inr (.inr ht))]
  case mkSl e z b l c => rw [opd_congr (x := l) fun t ht => h t (.inl ht), opd_congr (x := c) fun t ht => h t (.inr ht)]
  case mkFn f c => rw [caps_congr h]
  case ext x i => rw [opd_congr h]
  case len b x => rw [opd_congr h]
  case app e s b x y => rw [opd_congr (x := x) fun t ht => h t (.inl ht), opd_congr (x := y) fun t ht => h t (.inr ht)]
  case min xs => rw [map_congr' h]
  case max xs => rw [map_congr' h]
  case call f xs => rw [opd_congr (x := f) fun t ht => h t (.inl ht), map_congr' (l := xs) fun t ht => h t (.inr ht)]

/-- A step's value, and the heap behind it. -/
def resKO (call : CallA) (o : KO) (σ : Sl) (H : AHeap) : Option (AV × AHeap) := if wantA σ o.g then evalOp call σ H o.op else some (.c .undef, H)
theorem evalKO_res {o : KO} {s : St} : evalKO call o s = (resKO call o s.1 s.2).map fun r => (putS s.1 o.dst r.1, r.2) := by
  unfold evalKO resKO; split <;> rfl
theorem want_congr {g : Option (Nat × Bool)} (h : ∀ j w, g = some (j, w) → σ j = σ2 j) : wantA σ g = wantA σ2 g := by
  cases g with
  | none => rfl
  | some p => obtain ⟨j, w⟩ := p; simp only [wantA]; rw [h j w rfl]
theorem ko_lk_guard {o : KO} {j : Nat} {w : Bool} (h : o.g = some (j, w)) : j ∈ o.lk := by unfold KO.lk; rw [h]; simp
theorem ko_lk_op {o : KO} {t : Nat} (h : t ∈ o.op.lk) : t ∈ o.lk := by unfold KO.lk; simp [h]
theorem want_congr' {o : KO} (h : ∀ t ∈ o.lk, σ t = σ2 t) : wantA σ o.g = wantA σ2 o.g := want_congr fun j w e => h j (ko_lk_guard e)
theorem res_congr {o : KO} (h : ∀ t ∈ o.lk, σ t = σ2 t) : resKO call o σ H = resKO call o σ2 H := by
  unfold resKO
  rw [want_congr' h, evalOp_congr fun t ht => h t (ko_lk_op ht)]

/-! ### The kinds -/
theorem pure_op {k : KOp} (hk : k.kind = .P) {v : AV} {H' : AHeap} (h : evalOp call σ H k = some (v, H')) : H' = H ∧ ∀ H2, evalOp call σ H2 k = some (v, H2) := by
  cases k <;> simp only [KOp.kind, reduceCtorEq] at hk <;> simp only [evalOp] at h ⊢
  case mov x => simp at h; obtain ⟨rfl, rfl⟩ := h; exact ⟨rfl, fun _ => rfl⟩
  case lenA n => simp at h; obtain ⟨rfl, rfl⟩ := h; exact ⟨rfl, fun _ => rfl⟩
  case idx1 l x i =>
    generalize x.ev σ = X at h ⊢
    generalize i.ev σ = I at h ⊢
    split at h
    · split at h
      · rename_i hb
        simp only [Option.map_eq_some_iff, Prod.mk.injEq] at h
        obtain ⟨u, h1, rfl, rfl⟩ := h
        exact ⟨rfl, fun _ => by simp [hb, h1]⟩
      · simp at h
    · simp at h
  case idxStr x i =>
    generalize x.ev σ = X at h ⊢
    generalize i.ev σ = I at h ⊢
    split at h
    · split at h
      · rename_i hb
        simp only [Option.map_eq_some_iff, Prod.mk.injEq] at h
        obtain ⟨u, h1, rfl, rfl⟩ := h
        exact ⟨rfl, fun _ => by simp [hb, h1]⟩
      · simp at h
    · simp at h
  all_goals (try simp only [Option.map_eq_some_iff, Prod.mk.injEq] at h ⊢)
  all_goals
    first
    | (obtain ⟨u, h1, rfl, rfl⟩ := h; exact ⟨rfl, fun _ => ⟨u, h1, rfl, trivial⟩⟩)
    | (split at h <;> first | (simp at h; done) | (simp at h; obtain ⟨rfl, rfl⟩ := h; refine ⟨rfl, fun _ => ?_⟩; simp_all; done) | (simp at h; obtain ⟨u, h1, rfl, rfl⟩ := h; refine ⟨rfl, fun _ => ?_⟩; simp_all; done))
    | skip
theorem load_op {k : KOp} (hk : k.kind = .L) {v : AV} {H' : AHeap} (h : evalOp call σ H k = some (v, H')) : H' = H := by
  cases k <;> simp only [KOp.kind, reduceCtorEq] at hk <;> simp only [evalOp] at h
  case load1 x =>
    split at h
    · simp only [Option.map_eq_some_iff, Prod.mk.injEq] at h
      obtain ⟨u, h1, rfl, rfl⟩ := h; rfl
    · simp at h
  case loadN n x =>
    split at h
    · simp only [Option.map_eq_some_iff, Prod.mk.injEq] at h
      obtain ⟨u, h1, rfl, rfl⟩ := h; rfl
    · simp at h
  case convBS x =>
    split at h
    · simp at h; exact h.2.symm
    · split at h
      · simp at h; exact h.2.symm
      · split at h
        · simp only [Option.map_eq_some_iff, Prod.mk.injEq] at h
          obtain ⟨u, h1, rfl, rfl⟩ := h; rfl
        · simp at h
    · simp at h
theorem load_call {k : KOp} (hk : k.kind = .L) {call2 : CallA} : evalOp call σ H k = evalOp call2 σ H k := by
  cases k <;> simp only [KOp.kind, reduceCtorEq] at hk <;> rfl
/-- A step that does nothing to the heap. -/
theorem res_nonE {o : KO} (hk : o.op.kind.isE = false) {v : AV} {H' : AHeap} (h : resKO call o σ H = some (v, H')) : H' = H := by
  unfold resKO at h
  split at h
  · cases hkk : o.op.kind with
    | P => exact (pure_op hkk h).1
    | L => exact load_op hkk h
    | A => rw [hkk] at hk; simp [Kind.isE] at hk
    | H => rw [hkk] at hk; simp [Kind.isE] at hk
  · simp at h; exact h.2.symm
theorem res_pure {o : KO} (hk : o.op.kind = .P) {v : AV} {H' : AHeap} (h : resKO call o σ H = some (v, H')) (H2 : AHeap) : resKO call o σ H2 = some (v, H2) := by
  unfold resKO at h ⊢
  split at h
  · rename_i hw; rw [if_pos hw]; exact (pure_op hk h).2 H2
  · rename_i hw; rw [if_neg hw]; simp at h; rw [← h.1]
theorem res_unwanted {o : KO} (hw : ¬ wantA σ o.g = true) {v : AV} {H' : AHeap} (h : resKO call o σ H = some (v, H')) : v = .c .undef ∧ H' = H ∧ ∀ H2, resKO call o σ H2 = some (v, H2) := by
  unfold resKO at h ⊢
  rw [if_neg hw] at h
  simp at h
  obtain ⟨rfl, rfl⟩ := h
  exact ⟨rfl, rfl, fun H2 => by rw [if_neg hw]⟩

/-- A new block: of what, and what its address is told as. -/
theorem alloc_op {P : Program} {β : Beta} {a : Act} (w : World) (hs : SR β σ a) {o : Oper} {k : KOp} (hc : cOp P o.op = some k) (hk : k.kind = .A) {v : AV} {H' : AHeap} (h : evalOp call σ H k = some (v, H')) :
    ∃ (e : TypeId) (cs : List CV) (xs : List Value) (mkV : Nat → AV) (mkX : Nat → Value), H' = H ++ [some ⟨e, cs, .own⟩] ∧ v = mkV H.length ∧ (∀ H2 : AHeap, evalOp call σ H2 k = some (mkV H2.length, H2 ++ [some ⟨e, cs, .own⟩])) ∧ Cells β cs xs ∧
      ((execOp a.eval o).run P w = .ok (.value (mkX w.heap.size)) (w.alloc (.cells xs.toArray e (0, 0)))) ∧ ∀ (β1 : Beta) (id b n : Nat), β1[id]? = some (b, 0, n) → (mkV id).rel β1 (mkX b) := by
  obtain ⟨dst, op, type, pos, after, gd⟩ := o
  simp only at hc
  have hrel : ∀ (β1 : Beta) (id b n : Nat), β1[id]? = some (b, 0, n) → AddrRel β1 (id, 0) ⟨b, 0, none⟩ := fun β1 id b n hb => ⟨b, 0, n, hb, by simp⟩
  cases op
  case alloc e =>
    simp only [cOp, Option.map_eq_some_iff] at hc
    obtain ⟨z, hz, rfl⟩ := hc
    simp only [evalOp, Option.some.injEq, Prod.mk.injEq] at h; obtain ⟨rfl, rfl⟩ := h
    obtain ⟨x, hx, hcc⟩ := run_zero (P := P) hz w
    exact ⟨e, z, x.cells.toList, fun id => .c (.ptr (some (id, 0))), fun b => .pointer (some ⟨b, 0, none⟩), rfl, rfl, fun H2 => rfl, hcc β, by simp [execOp, Instr.alloc, newVar, newRow, hx], fun β1 id b n hb => ⟨_, hrel β1 id b n hb, rfl⟩⟩
  case box e x =>
    simp only [cOp, Option.map_eq_some_iff] at hc
    obtain ⟨y, hy, rfl⟩ := hc
    simp only [evalOp] at h
    split at h
    case h_2 => simp at h
    rename_i cs hcs
    simp only [Option.some.injEq, Prod.mk.injEq] at h; obtain ⟨rfl, rfl⟩ := h
    obtain ⟨xs, h1, h2⟩ := AV.cells_rel hcs (cOpd_rel hs hy)
    exact ⟨e, cs, xs, fun id => .c (.ptr (some (id, 0))), fun b => .pointer (some ⟨b, 0, none⟩), rfl, rfl, fun H2 => by simp only [evalOp, hcs], h2, by simp [execOp, Instr.box, newVar, newRow, h1], fun β1 id b n hb => ⟨_, hrel β1 id b n hb, rfl⟩⟩
  case buildSlice t len parts =>
    simp only [cOp] at hc
    split at hc
    case h_2 => simp at hc
    rename_i e hu
    split at hc
    case h_2 => simp at hc
    rename_i z s hz hss
    split at hc
    case isFalse => simp at hc
    rename_i hcond
    simp only [Option.map_eq_some_iff] at hc
    obtain ⟨qs, hq, rfl⟩ := hc
    simp only [evalOp] at h
    split at h
    case h_2 => simp at h
    rename_i l hl
    simp only [Option.map_eq_some_iff] at h
    obtain ⟨cs, hcs, he⟩ := h
    simp only [Prod.mk.injEq] at he; obtain ⟨rfl, rfl⟩ := he
    obtain ⟨xs, h1, h2⟩ := buildSl_run (dst := dst) (type := type) (pos := pos) (after := after) (g := gd) (w := w) hs hu hz hss hcond.1 hcond.2 hq hl hcs
    exact ⟨e, cs, xs, fun id => .c (.slice (some (id, 0)) len (.exact len)), fun b => .slice (some ⟨b, 0, none⟩) len len, rfl, rfl, fun H2 => by simp only [evalOp, hl, hcs, Option.map_some], h1, h2,
      fun β1 id b n hb => ⟨_, len, fun _ => hrel β1 id b n hb, fun _ => rfl, rfl, Nat.le_refl _, rfl⟩⟩
  all_goals (
    exfalso
    simp only [cOp] at hc
    repeat' (split at hc)
    all_goals first
      | (simp at hc; done)
      | (simp only [Option.map_eq_some_iff] at hc; obtain ⟨_, _, rfl⟩ := hc; simp [KOp.kind] at hk; done)
      | (simp only [Option.some.injEq] at hc; subst hc; simp [KOp.kind] at hk; done)
      | (simp_all [KOp.kind]; done)
      | skip)
end
end Go.Proofs.Ytebdajfangbdpaa.VI
