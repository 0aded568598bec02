/- An interpreter over an abstract heap, and its soundness over the machine: part Drawn6. -/
import Derived.Test.YtebdajfangbdpaaViDrawn5
set_option linter.unusedVariables false
set_option linter.unusedSimpArgs false
set_option linter.unusedSectionVars false
namespace Go.Proofs.Ytebdajfangbdpaa.VI
open Go Go.RowKit

section
variable {call : CallA} {r : Rg} {tr : Nat → St} {val : Nat → AV} {B0 n : Nat} {β0 : Beta} {w0 : World} {D : Nat → Prop} {m : Nat} {β : Beta} {a : Act} {w : World} {bl : Nat → Nat}

theorem closed_more (I : Inv r tr val B0 n β0 w0 D m β a w bl) {p : Nat} (hdeps : ∀ d ∈ r.deps (r.ix p), D d) : Closed r.ops.toList (fun i => D i ∨ i = r.ix p) := by
  rintro i o hi (h | rfl) d hd
  · exact .inl (I.cl i o hi h d hd)
  · refine .inl (hdeps d ?_)
    unfold Rg.deps Rg.oper
    have : r.ops[r.ix p]? = some o := by simpa using hi
    rw [Array.getD_eq_getD_getElem?, this]; exact hd

/-- Behind an operation that leaves no block aside. -/
theorem Inv.next (ok : r.Ok) (I : Inv r tr val B0 n β0 w0 D m β a w bl) {p : Nat} (hp : p < r.N) (hn : ¬ D (r.ix p)) (hdeps : ∀ d ∈ r.deps (r.ix p), D d) (hdst : ∀ d, r.dst (r.ix p) = some d → d < n) {m' : Nat} (hm : m ≤ m') (hmN : m' ≤ r.N)
    (hlow : ∀ q, q < m' → (r.kind (r.ix q)).isE = true → D (r.ix q) ∨ q = p) (hhigh : (r.kind (r.ix p)).isH = true → p < m') (hnp : (r.kind (r.ix p)).isA = true → wantA (tr p).1 (r.ko (r.ix p)).g = true → p < m') (hkeep : ∀ q, m ≤ q → q ≠ p → m' ≤ q)
    {β' : Beta} {w' : World} (g : Go_ B0 β (tr m).2 w β' (tr m').2 w') {x : Value} (hx : (val p).rel β' x) : Inv r tr val B0 n β0 w0 (fun i => D i ∨ i = r.ix p) m' β' (a.put (r.dst (r.ix p)) x) w' bl := by
  have hD' : ∀ q, q < r.N → (D (r.ix q) ∨ r.ix q = r.ix p) → q ≠ p → D (r.ix q) := fun q hq h hne => h.resolve_right fun e => hne (ok.inj q p hq hp e)
  have hback : ∀ q, q < r.N → Pnd r tr (fun i => D i ∨ i = r.ix p) m' q → q ≠ p ∧ Pnd r tr D m q := fun q hq h => by
    have hne : q ≠ p := fun e => by
      subst e
      have := hnp h.2.1 h.2.2.2
      have := h.1; omega
    exact ⟨hne, ⟨by have := h.1; omega, h.2.1, hD' q hq h.2.2.1 hne, h.2.2.2⟩⟩
  have hfwd : ∀ q, q ≠ p → Pnd r tr D m q → Pnd r tr (fun i => D i ∨ i = r.ix p) m' q := fun q hne h => ⟨hkeep q h.1 hne, h.2.1, .inl h.2.2.1, h.2.2.2⟩
  refine ⟨hmN, closed_more I hdeps, ?_, ?_, I.go.trans g, I.base, by rw [put_size]; exact I.size, by rw [put_defers']; exact I.defers, ?_, ?_, ?_, ?_⟩
  · intro q hq hE
    rcases hlow q hq hE with h | h
    · exact .inl h
    · exact .inr (by rw [h])
  · intro q hq hH hd
    by_cases e : q = p
    · subst e; exact hhigh hH
    · have := I.high q hq hH (hD' q hq hd e); omega
  · intro q hq hd t ht
    by_cases e : q = p
    · subst e
      refine .inr ?_
      rw [ht, put_get_same (by rw [I.size]; exact hdst t ht)]
      exact hx
    · have hne : r.dst (r.ix p) ≠ some t := fun h => e (ok.inj q p hq hp (ok.dst _ _ t (ok.lt q hq) (ok.lt p hp) h ht))
      rw [put_get_ne hne]
      rcases I.set q hq (hD' q hq hd e) t ht with h | h
      · exact .inl (hfwd q e h)
      · exact .inr (AV.rel_ext g.ext h)
  · intro t ht
    have hne : r.dst (r.ix p) ≠ some t := ht p hp (.inr rfl)
    rw [put_get_ne hne]
    exact AV.rel_ext g.ext (I.old t fun q hq hd => ht q hq (.inl hd))
  · intro q hq h
    obtain ⟨hne, h0⟩ := hback q hq h
    obtain ⟨⟨e, cs, xs, h1, h2, h3, h4⟩, h5, h6, h7⟩ := I.pend q hq h0
    refine ⟨⟨e, cs, xs, h1, ?_, h3.ext g.ext, fun t ht β1 hb => ?_⟩, Nat.lt_of_lt_of_le h5 g.below.size, h6, fun ho => h7 (g.sub _ h5 ho)⟩
    · rw [g.fr _ h5 h7]; exact h2
    · have hne' : r.dst (r.ix p) ≠ some t := fun h => hne (ok.inj q p hq hp (ok.dst _ _ t (ok.lt q hq) (ok.lt p hp) h ht))
      rw [put_get_ne hne']
      exact h4 t ht β1 hb
  · intro q q' hq hq' h h' e
    exact I.apart q q' hq hq' (hback q hq h).2 (hback q' hq' h').2 e

/-- Behind an operation whose block is left aside. -/
theorem Inv.nextA (ok : r.Ok) (I : Inv r tr val B0 n β0 w0 D m β a w bl) {p : Nat} (hp : p < r.N) (hmp : m ≤ p) (hn : ¬ D (r.ix p)) (hdeps : ∀ d ∈ r.deps (r.ix p), D d) (hdst : ∀ d, r.dst (r.ix p) = some d → d < n) (hA : (r.kind (r.ix p)).isA = true) (hw : wantA (tr p).1 (r.ko (r.ix p)).g = true)
    {e : TypeId} {cs : List CV} {xs : List Value} {x : Value} (h1 : (tr (p + 1)).2 = (tr p).2 ++ [some ⟨e, cs, .own⟩]) (hc : Cells β cs xs) (hx : ∀ β1 : Beta, β1[(tr p).2.length]? = some (w.heap.size, 0, xs.length) → (val p).rel β1 x) :
    Inv r tr val B0 n β0 w0 (fun i => D i ∨ i = r.ix p) m β (a.put (r.dst (r.ix p)) x) (w.alloc (.cells xs.toArray e (0, 0))) (fun q => if q = p then w.heap.size else bl q) := by
  have hD' : ∀ q, q < r.N → (D (r.ix q) ∨ r.ix q = r.ix p) → q ≠ p → D (r.ix q) := fun q hq h hne => h.resolve_right fun e => hne (ok.inj q p hq hp e)
  have hback : ∀ q, q < r.N → q ≠ p → Pnd r tr (fun i => D i ∨ i = r.ix p) m q → Pnd r tr D m q := fun q hq hne h => ⟨h.1, h.2.1, hD' q hq h.2.2.1 hne, h.2.2.2⟩
  have g := I.go.hr.aside (.cells xs.toArray e (0, 0))
  refine ⟨I.le, closed_more I hdeps, fun q hq hE => .inl (I.low q hq hE), ?_, I.go.trans g, I.base, by rw [put_size]; exact I.size, by rw [put_defers']; exact I.defers, ?_, ?_, ?_, ?_⟩
  · intro q hq hH hd
    by_cases e : q = p
    · subst e
      cases hk : r.kind (r.ix q) <;> rw [hk] at hA hH <;> simp [Kind.isA, Kind.isH] at hA hH
    · exact I.high q hq hH (hD' q hq hd e)
  · intro q hq hd t ht
    by_cases e : q = p
    · subst e; exact .inl ⟨hmp, hA, .inr rfl, hw⟩
    · have hne : r.dst (r.ix p) ≠ some t := fun h => e (ok.inj q p hq hp (ok.dst _ _ t (ok.lt q hq) (ok.lt p hp) h ht))
      rw [put_get_ne hne]
      rcases I.set q hq (hD' q hq hd e) t ht with h | h
      · exact .inl ⟨h.1, h.2.1, .inl h.2.2.1, h.2.2.2⟩
      · exact .inr h
  · intro t ht
    have hne : r.dst (r.ix p) ≠ some t := ht p hp (.inr rfl)
    rw [put_get_ne hne]
    exact I.old t fun q hq hd => ht q hq (.inl hd)
  · intro q hq h
    by_cases e' : q = p
    · subst e'
      simp only [if_true]
      refine ⟨⟨e, cs, xs, h1, alloc_heap_new w _, hc, fun t ht β1 hb => ?_⟩, by rw [alloc_size]; omega, I.go.below.size, fun ho => ?_⟩
      · rw [ht, put_get_same (by rw [I.size]; exact hdst t ht)]
        exact hx β1 hb
      · have := I.go.hr.lt ho; omega
    · rw [if_neg e']
      obtain ⟨⟨e2, cs2, xs2, k1, k2, k3, k4⟩, h5, h6, h7⟩ := I.pend q hq (hback q hq e' h)
      refine ⟨⟨e2, cs2, xs2, k1, by rw [alloc_heap_lt w _ h5]; exact k2, k3, fun t ht β1 hb => ?_⟩, by rw [alloc_size]; omega, h6, h7⟩
      have hne' : r.dst (r.ix p) ≠ some t := fun h => e' (ok.inj q p hq hp (ok.dst _ _ t (ok.lt q hq) (ok.lt p hp) h ht))
      rw [put_get_ne hne']
      exact k4 t ht β1 hb
  · intro q q' hq hq' h h' he
    by_cases e1 : q = p <;> by_cases e2 : q' = p
    · rw [e1, e2]
    · simp only [e1, e2, if_true, if_false] at he
      have := (I.pend q' hq' (hback q' hq' e2 h')).lt
      omega
    · simp only [e1, e2, if_true, if_false] at he
      have := (I.pend q hq (hback q hq e1 h)).lt
      omega
    · simp only [e1, e2, if_false] at he
      exact I.apart q q' hq hq' (hback q hq e1 h) (hback q' hq' e2 h') he

/-- One operation, in whatever order. -/
theorem Inv.step {P : Program} (hcall : CallOk P call) (T : Tr call r tr val) (ok : r.Ok) (ha : r.an = ancsOf r.ops.toList) (hko : ∀ i, i < r.N → r.ops[i]? = some (r.oper i) ∧ cOper P n r.ops (r.oper i) = some (r.ko i))
    (I : Inv r tr val B0 n β0 w0 D m β a w bl) {p : Nat} (hp : p < r.N) (hn : ¬ D (r.ix p)) (hdeps : ∀ d ∈ r.deps (r.ix p), D d) {K : Act → World → Prop} {Q : Exit → Act → World → Prop}
    (hK : ∀ m' β' a' w' bl', Inv r tr val B0 n β0 w0 (fun i => D i ∨ i = r.ix p) m' β' a' w' bl' → K a' w') : wpOp P r.ops Q (r.ix p) K a w := by
  have hcl' := closed_more I hdeps
  obtain ⟨hop, hco⟩ := hko (r.ix p) (ok.lt p hp)
  obtain ⟨hd1, _, hd2⟩ := cOper_parts hco
  have hdst : ∀ d, r.dst (r.ix p) = some d → d < n := fun d hd => hd2 d (by rw [← hd1]; exact hd)
  -- the level
  have hlev : ∃ m1 β1, Inv r tr val B0 n β0 w0 D m1 β1 a w bl ∧ (r.sync (r.ix p) = true → p ≤ m1) := by
    by_cases hs : r.sync (r.ix p) = true
    · by_cases hmp : p ≤ m
      · exact ⟨m, β, I, fun _ => hmp⟩
      · obtain ⟨β1, _, I1⟩ := I.advTo T ok (p - m) (by omega) (fun q h1 h2 hE => by
          have hlt := ok.sync p hp hs q (by omega) hE
          rcases Rg.lt_closed ha hcl' hlt (.inr rfl) with h | h
          · exact h
          · have := ok.inj q p (by omega) hp h; omega)
        exact ⟨m + (p - m), β1, I1, fun _ => by omega⟩
    · exact ⟨m, β, I, fun h => absurd h hs⟩
  obtain ⟨m, β, I, hs⟩ := hlev
  have hag : ∀ t ∈ r.lk (r.ix p), t ∉ pl r tr D m ∧ sm r tr D m t = (tr p).1 t := fun t ht => I.agree T ok ha hp hn hdeps hs ht
  have hsr := I.sr T ok
  have hps : ∀ t ∈ pl r tr D m, t ∉ (r.oper (r.ix p)).looksAt r.ops := fun t ht h => (hag t (by unfold Rg.lk; simp [h])).1 ht
  have hsl : ∀ t ∈ (r.ko (r.ix p)).lk, sm r tr D m t = (tr p).1 t := fun t ht => (hag t (by unfold Rg.lk; simp [ht])).2
  have hst := T.step p hp
  have hput : ∀ (x : Value), a.put (r.oper (r.ix p)).dst x = a.put (r.dst (r.ix p)) x := fun x => by rw [show r.dst (r.ix p) = (r.oper (r.ix p)).dst from hd1]
  -- an operation of the kind E lies at the level or above
  have habove : (r.kind (r.ix p)).isE = true → m ≤ p := fun hE => by
    rcases Nat.lt_or_ge p m with h | h
    · exact absurd (I.low p h hE) hn
    · exact h
  -- what stays at the level
  have stay : (r.kind (r.ix p)).isH = false → ((r.kind (r.ix p)).isA = true → ¬ wantA (tr p).1 (r.ko (r.ix p)).g = true) → resKO call (r.ko (r.ix p)) (sm r tr D m) (tr m).2 = some (val p, (tr m).2) → wpOp P r.ops Q (r.ix p) K a w := by
    intro hH hA hres
    refine wpOp_res hcall hsr I.go.hr hop hco hps hres fun β' x w' hv g => ?_
    rw [hput]
    refine hK m β' _ w' bl (I.next ok hp hn hdeps hdst (Nat.le_refl _) I.le (fun q hq hE => .inl (I.low q hq hE)) (fun h => by rw [hH] at h; simp at h) (fun h h' => absurd h' (hA h)) (fun q h _ => h) g hv)
  cases hk : r.kind (r.ix p) with
  | P =>
    refine stay (by rw [hk]; rfl) (fun h => by rw [hk] at h; simp [Kind.isA] at h) ?_
    rw [res_congr hsl]
    exact res_pure (show (r.ko (r.ix p)).op.kind = .P from hk) hst _
  | L =>
    refine stay (by rw [hk]; rfl) (fun h => by rw [hk] at h; simp [Kind.isA] at h) ?_
    have hL : (r.kind (r.ix p)).isL = true := by rw [hk]; rfl
    have hpm : p ≤ m := hs (by unfold Rg.sync; rw [hL]; simp)
    refine T.reload ok ha hp hL hsl m hpm I.le fun q h1 h2 hE => ?_
    have hDq := I.low q h2 hE
    cases hlt : r.lt (r.ix p) (r.ix q) with
    | false => rfl
    | true => exact absurd (Rg.lt_closed ha I.cl hlt hDq) hn
  | H =>
    have hE : (r.kind (r.ix p)).isE = true := by rw [hk]; rfl
    have hpm : p ≤ m := hs (by unfold Rg.sync; rw [hk]; simp [Kind.isH])
    have hmp := habove hE
    have : m = p := by omega
    subst this
    have hres : resKO call (r.ko (r.ix m)) (sm r tr D m) (tr m).2 = some (val m, (tr (m + 1)).2) := by rw [res_congr hsl]; exact hst
    refine wpOp_res hcall hsr I.go.hr hop hco hps hres fun β' x w' hv g => ?_
    rw [hput]
    refine hK (m + 1) β' _ w' bl (I.next ok hp hn hdeps hdst (by omega) (by omega) (fun q hq hE => ?_) (fun _ => by omega) (fun _ _ => by omega) (fun q h hne => by omega) g hv)
    by_cases e : q = m
    · exact .inr e
    · exact .inl (I.low q (by omega) hE)
  | A =>
    have hA : (r.kind (r.ix p)).isA = true := by rw [hk]; rfl
    have hE : (r.kind (r.ix p)).isE = true := by rw [hk]; rfl
    by_cases hw : wantA (tr p).1 (r.ko (r.ix p)).g = true
    · have hkA : (r.ko (r.ix p)).op.kind = .A := hk
      have hwσ : wantA (sm r tr D m) (r.ko (r.ix p)).g = true := by rw [want_congr' hsl]; exact hw
      have hst' : resKO call (r.ko (r.ix p)) (sm r tr D m) (tr p).2 = some (val p, (tr (p + 1)).2) := by rw [res_congr hsl]; exact hst
      refine wpOp_alloc hsr hop hco hps hkA hwσ hst' fun e cs xs x h1 h2 h3 => ?_
      rw [hput]
      exact hK m β _ _ _ (I.nextA ok hp (habove hE) hn hdeps hdst hA hw h1 h2 h3)
    · refine stay (by rw [hk]; rfl) (fun _ => hw) ?_
      rw [res_congr hsl]
      have h3 := res_unwanted hw hst
      exact h3.2.2 _
end
end Go.Proofs.Ytebdajfangbdpaa.VI
