/- An interpreter over an abstract heap, and its soundness over the machine: part Drawn2. -/
import Derived.Test.YtebdajfangbdpaaViDrawn
set_option linter.unusedVariables false
set_option linter.unusedSimpArgs false
set_option linter.unusedSectionVars false
namespace Go.Proofs.Ytebdajfangbdpaa.VI
open Go Go.RowKit

/-! ### Slots put aside -/
def clr (ps : List Nat) (a : Act) : Act := ps.foldr (fun t a => a.put (some t) Go.undef) a
theorem clr_get (ps : List Nat) (a : Act) (t : Nat) : (clr ps a).tmps.getD t Go.undef = if t ∈ ps then Go.undef else a.tmps.getD t Go.undef := by
  induction ps with
  | nil => simp [clr]
  | cons u ps ih =>
    have e : clr (u :: ps) a = (clr ps a).put (some u) Go.undef := rfl
    rw [e]
    by_cases h : u = t
    · subst h
      simp only [Act.put, Array.getD_eq_getD_getElem?, Array.getElem?_setIfInBounds_self]
      simp
      split <;> rfl
    · simp only [Act.put, Array.getD_eq_getD_getElem?, Array.getElem?_setIfInBounds_ne h]
      rw [← Array.getD_eq_getD_getElem?, ih]
      have : t ∈ u :: ps ↔ t ∈ ps := by simp [Ne.symm h]
      simp only [this, Array.getD_eq_getD_getElem?]
theorem clr_exec {P : Program} {ops : Array Oper} {o : Oper} {k : KOp} (hc : cOp P o.op = some k) : ∀ {ps : List Nat} {a : Act}, (∀ t ∈ ps, t ∉ o.looksAt ops) → execOp (clr ps a).eval o = execOp a.eval o
  | [], a, _ => rfl
  | u :: ps, a, h => by
    have e : clr (u :: ps) a = (clr ps a).put (some u) Go.undef := rfl
    have hs : ∀ cs b, o.op ≠ .select cs b := by
      intro cs b e
      rw [e] at hc
      simp [cOp] at hc
    rw [e, execOp_put (ops := ops) o hs _ _ _ (fun d hd => by cases hd; exact h u (by simp)), clr_exec hc (fun t ht => h t (by simp [ht]))]
theorem clr_want {ops : Array Oper} {o : Oper} : ∀ {ps : List Nat} {a : Act}, (∀ t ∈ ps, t ∉ o.looksAt ops) → Region.wanted o (yielded ops (clr ps a).tmps) = Region.wanted o (yielded ops a.tmps)
  | [], a, _ => rfl
  | u :: ps, a, h => by
    have e : clr (u :: ps) a = (clr ps a).put (some u) Go.undef := rfl
    rw [e, wanted_put o _ _ _ (fun d hd => by cases hd; exact h u (by simp)), clr_want (fun t ht => h t (by simp [ht]))]

/-! ### Blocks that nobody knows yet -/
section
variable {B0 : Nat} {β : Beta} {H : AHeap} {w : World}
theorem HR.aside (h : HR B0 β H w) (o : Obj) : Go_ B0 β H w β H (w.alloc o) := by
  refine ⟨⟨h.len, by rw [alloc_size]; have := h.base; omega, fun i blk hi => ?_, h.inj⟩, .refl _, (Below.refl B0 w).alloc h.base _, fun b hb _ => alloc_heap_lt w _ hb, fun b hb ho => ho⟩
  exact BlkRel.kept (.refl _) (fun b hb => alloc_heap_lt w _ (by have := h.base; omega)) (fun hbm b o k hb => alloc_heap_lt w _ (h.lt ⟨i, blk, o, hi, hbm, k, hb⟩)) (h.blk i blk hi)

theorem HR.adopt (h : HR B0 β H w) {b : Nat} {e : TypeId} {cs : List CV} {xs : List Value} (hB : B0 ≤ b) (hh : w.heap[b]? = some (.cells xs.toArray e (0, 0))) (hc : Cells β cs xs) (hn : ¬ Owned β H b) :
    HR B0 (β ++ [(b, 0, xs.length)]) (H ++ [some ⟨e, cs, .own⟩]) w ∧ ∀ x, Owned (β ++ [(b, 0, xs.length)]) (H ++ [some ⟨e, cs, .own⟩]) x → Owned β H x ∨ x = b := by
  have he : Ext β (β ++ [(b, 0, xs.length)]) := ⟨_, rfl⟩
  have hown : ∀ x, Owned (β ++ [(b, 0, xs.length)]) (H ++ [some ⟨e, cs, .own⟩]) x → Owned β H x ∨ x = b := by
    rintro x ⟨i, blk, o, hi, hbm, k, hb⟩
    rcases getElem?_snoc hi with hi | ⟨hi, _⟩
    · have hlt : i < β.length := by rw [h.len]; exact (List.getElem?_eq_some_iff.1 hi).1
      rw [List.getElem?_append_left hlt] at hb
      exact .inl ⟨i, blk, o, hi, hbm, k, hb⟩
    · subst hi
      rw [List.getElem?_append_right (by rw [h.len]; exact Nat.le_refl _), h.len] at hb
      simp at hb
      exact .inr hb.1.symm
  refine ⟨⟨by simp [h.len], h.base, fun i blk hi => ?_, ?_⟩, hown⟩
  · rcases getElem?_snoc hi with hi | ⟨hi2, hblk⟩
    · exact BlkRel.kept he (fun _ _ => rfl) (fun _ _ _ _ _ => rfl) (h.blk i blk hi)
    · simp at hblk; subst hblk; subst hi2
      exact .inr ⟨.inl rfl, ⟨b, xs, by rw [List.getElem?_append_right (by rw [h.len]; exact Nat.le_refl _), h.len]; simp, hB, hh, by simp only; rw [hc.1, List.take_length]; exact hc.ext he, fun _ => hc.1.symm⟩⟩
  · intro i j bi bj b' oi oj ki kj hi hj hmi hmj hbi hbj
    have key : ∀ (i : Nat) (bi : Blk) (oi ki : Nat), (H ++ [some ⟨e, cs, .own⟩])[i]? = some (some bi) → (bi.m = .own ∨ bi.m = .opn) → (β ++ [(b, 0, xs.length)])[i]? = some (b', oi, ki) → (H[i]? = some (some bi) ∧ β[i]? = some (b', oi, ki) ∧ Owned β H b') ∨ (i = H.length ∧ b' = b) := by
      intro i bi oi ki hi hmi hbi
      rcases getElem?_snoc hi with hi' | ⟨hi', _⟩
      · have hlt : i < β.length := by rw [h.len]; exact (List.getElem?_eq_some_iff.1 hi').1
        rw [List.getElem?_append_left hlt] at hbi
        exact .inl ⟨hi', hbi, ⟨i, bi, oi, hi', hmi, ki, hbi⟩⟩
      · subst hi'
        rw [List.getElem?_append_right (by rw [h.len]; exact Nat.le_refl _), h.len] at hbi
        simp at hbi
        exact .inr ⟨rfl, hbi.1.symm⟩
    rcases key i bi oi ki hi hmi hbi with ⟨h1, h2, h3⟩ | ⟨h1, h3⟩ <;> rcases key j bj oj kj hj hmj hbj with ⟨h4, h5, h6⟩ | ⟨h4, h6⟩
    · exact h.inj i j bi bj b' oi oj ki kj h1 h4 hmi hmj h2 h5
    · subst h6; exact absurd h3 hn
    · subst h3; exact absurd h6 hn
    · omega
end

/-! ### One step of a region, over an act that looks the same -/
section
variable {P : Program} {call : CallA} {B0 : Nat} {n : Nat} {ops : Array Oper}
theorem wpOp_res (hc : CallOk P call) {β : Beta} {σ : Sl} {H H' : AHeap} {a : Act} {ps : List Nat} {w : World} {v : AV} (hs : SR β σ (clr ps a)) (hr : HR B0 β H w) {i : Nat} {o : Oper} {k : KO} (hi : ops[i]? = some o) (h : cOper P n ops o = some k)
    (hp : ∀ t ∈ ps, t ∉ o.looksAt ops) (he : resKO call k σ H = some (v, H')) {K : Act → World → Prop} {Q : Exit → Act → World → Prop} (hK : ∀ β' x w', v.rel β' x → Go_ B0 β H w β' H' w' → K (a.put o.dst x) w') : wpOp P ops Q i K a w := by
  obtain ⟨hdst, hop, hlt⟩ := cOper_parts h
  have hw := want_eq hs h
  rw [clr_want hp] at hw
  unfold resKO at he
  unfold wpOp
  simp only [hi]
  rw [hw]
  split
  · rename_i hwa
    rw [if_pos hwa] at he
    have hres := op_res hc hs hr hop he
    have hex := clr_exec (ops := ops) (a := a) hop hp
    have hres2 : OpRes P o a B0 β H w v H' := by
      unfold OpRes OpOk at hres ⊢
      rw [hex] at hres
      exact hres
    exact .inl (hres2.wp hK)
  · rename_i hwa
    rw [if_neg hwa] at he
    simp only [Option.some.injEq, Prod.mk.injEq] at he
    obtain ⟨rfl, rfl⟩ := he
    exact hK β _ w rfl (.refl hr)

/-- The same for one that makes a block. -/
theorem wpOp_alloc {β : Beta} {σ : Sl} {H H' : AHeap} {a : Act} {ps : List Nat} {w : World} {v : AV} (hs : SR β σ (clr ps a)) {i : Nat} {o : Oper} {k : KO} (hi : ops[i]? = some o) (h : cOper P n ops o = some k)
    (hp : ∀ t ∈ ps, t ∉ o.looksAt ops) (hk : k.op.kind = .A) (hw : wantA σ k.g = true) (he : resKO call k σ H = some (v, H')) {K : Act → World → Prop} {Q : Exit → Act → World → Prop}
    (hK : ∀ (e : TypeId) (cs : List CV) (xs : List Value) (x : Value), H' = H ++ [some ⟨e, cs, .own⟩] → Cells β cs xs → (∀ β1 : Beta, β1[H.length]? = some (w.heap.size, 0, xs.length) → v.rel β1 x) → K (a.put o.dst x) (w.alloc (.cells xs.toArray e (0, 0)))) : wpOp P ops Q i K a w := by
  obtain ⟨hdst, hop, hlt⟩ := cOper_parts h
  have hw' := want_eq hs h
  rw [clr_want hp, hw] at hw'
  unfold resKO at he
  rw [if_pos hw] at he
  unfold wpOp
  simp only [hi]
  rw [if_pos hw']
  obtain ⟨e, cs, xs, mkV, mkX, h1, h2, _, h4, h5, h6⟩ := alloc_op w hs hop hk he
  rw [clr_exec (ops := ops) (a := a) hop hp] at h5
  refine .inl ?_
  unfold Oper.wp
  rw [h5]
  simp only [Oper.upon]
  exact hK e cs xs _ h1 h4 fun β1 hb => by rw [h2]; exact h6 β1 _ _ _ hb
end
end Go.Proofs.Ytebdajfangbdpaa.VI
