/- An interpreter over an abstract heap, and its soundness over the machine: part Drawn5. -/
import Derived.Test.YtebdajfangbdpaaViDrawn4
set_option linter.unusedVariables false
set_option linter.unusedSimpArgs false
set_option linter.unusedSectionVars false
namespace Go.Proofs.Ytebdajfangbdpaa.VI
open Go Go.RowKit

section
variable {call : CallA} {r : Rg} {tr : Nat → St} {val : Nat → AV} {B0 n : Nat} {β0 : Beta} {w0 : World}

/-- Its block is there, but not known yet. -/
def Pnd (r : Rg) (tr : Nat → St) (D : Nat → Prop) (m q : Nat) : Prop := m ≤ q ∧ (r.kind (r.ix q)).isA = true ∧ D (r.ix q) ∧ wantA (tr q).1 (r.ko (r.ix q)).g = true

structure Pend (r : Rg) (tr : Nat → St) (val : Nat → AV) (w0 : World) (m q : Nat) (β : Beta) (a : Act) (w : World) (b : Nat) : Prop where
  at_ : ∃ (e : TypeId) (cs : List CV) (xs : List Value), (tr (q + 1)).2 = (tr q).2 ++ [some ⟨e, cs, .own⟩] ∧ w.heap[b]? = some (.cells xs.toArray e (0, 0)) ∧ Cells β cs xs ∧
    ∀ t, r.dst (r.ix q) = some t → ∀ β1 : Beta, β1[(tr q).2.length]? = some (b, 0, xs.length) → (val q).rel β1 (a.tmps.getD t Go.undef)
  lt : b < w.heap.size
  new : w0.heap.size ≤ b
  free : ¬ Owned β (tr m).2 b

structure Inv (r : Rg) (tr : Nat → St) (val : Nat → AV) (B0 n : Nat) (β0 : Beta) (w0 : World) (D : Nat → Prop) (m : Nat) (β : Beta) (a : Act) (w : World) (bl : Nat → Nat) : Prop where
  le : m ≤ r.N
  cl : Closed r.ops.toList D
  low : ∀ q, q < m → (r.kind (r.ix q)).isE = true → D (r.ix q)
  high : ∀ q, q < r.N → (r.kind (r.ix q)).isH = true → D (r.ix q) → q < m
  go : Go_ B0 β0 (tr 0).2 w0 β (tr m).2 w
  base : B0 ≤ w0.heap.size
  size : a.tmps.size = n
  defers : a.defers = []
  set : ∀ q, q < r.N → D (r.ix q) → ∀ t, r.dst (r.ix q) = some t → Pnd r tr D m q ∨ (val q).rel β (a.tmps.getD t Go.undef)
  old : ∀ t, (∀ q, q < r.N → D (r.ix q) → r.dst (r.ix q) ≠ some t) → ((tr 0).1 t).rel β (a.tmps.getD t Go.undef)
  pend : ∀ q, q < r.N → Pnd r tr D m q → Pend r tr val w0 m q β a w (bl q)
  apart : ∀ q q', q < r.N → q' < r.N → Pnd r tr D m q → Pnd r tr D m q' → bl q = bl q' → q = q'

variable {D : Nat → Prop} {m : Nat} {β : Beta} {a : Act} {w : World} {bl : Nat → Nat}

theorem Pnd.isE {q : Nat} (h : Pnd r tr D m q) : (r.kind (r.ix q)).isE = true := by
  have := h.2.1
  cases hk : r.kind (r.ix q) <;> rw [hk] at this <;> simp [Kind.isA] at this
  rfl

/-- The level rises by one. -/
theorem Inv.adv (T : Tr call r tr val) (ok : r.Ok) (I : Inv r tr val B0 n β0 w0 D m β a w bl) (hm : m < r.N) (hD : (r.kind (r.ix m)).isE = true → D (r.ix m)) : ∃ β', Ext β β' ∧ Inv r tr val B0 n β0 w0 D (m + 1) β' a w bl := by
  by_cases hp : Pnd r tr D m m
  · -- the block is known from here on
    obtain ⟨⟨e, cs, xs, hh, hb, hc, hv⟩, hlt, hnew, hfree⟩ := I.pend m hm hp
    obtain ⟨hr', hown⟩ := I.go.hr.adopt (b := bl m) (e := e) (by have := I.base; omega) hb hc hfree
    have he : Ext β (β ++ [(bl m, 0, xs.length)]) := ⟨_, rfl⟩
    have hmono : ∀ q, Pnd r tr D (m + 1) q → Pnd r tr D m q := fun q h => ⟨by have := h.1; omega, h.2⟩
    refine ⟨β ++ [(bl m, 0, xs.length)], he, ⟨by omega, I.cl, ?_, ?_, ?_, I.base, I.size, I.defers, ?_, ?_, ?_, ?_⟩⟩
    · intro q hq hE
      by_cases e : q = m
      · subst e; exact hD hE
      · exact I.low q (by omega) hE
    · intro q hq hH hd
      have := I.high q hq hH hd; omega
    · rw [hh]
      refine ⟨hr', I.go.ext.trans he, I.go.below, I.go.fr, fun b hb ho => ?_⟩
      rcases hown b ho with h | h
      · exact I.go.sub b hb h
      · subst h; omega
    · intro q hq hd t ht
      by_cases e : q = m
      · subst e
        refine .inr (hv t ht _ ?_)
        have hl := I.go.hr.len
        rw [List.getElem?_append_right (by omega), hl]; simp
      · rcases I.set q hq hd t ht with h | h
        · exact .inl ⟨by have := h.1; omega, h.2⟩
        · exact .inr (AV.rel_ext he h)
    · intro t ht; exact AV.rel_ext he (I.old t ht)
    · intro q hq hp'
      obtain ⟨⟨e', cs', xs', hh', hb', hc', hv'⟩, hlt', hnew', hfree'⟩ := I.pend q hq (hmono q hp')
      refine ⟨⟨e', cs', xs', hh', hb', hc'.ext he, hv'⟩, hlt', hnew', fun ho => ?_⟩
      rw [hh] at ho
      rcases hown _ ho with h | h
      · exact hfree' h
      · have := I.apart q m hq hm (hmono q hp') hp h
        have := hp'.1; omega
    · intro q q' hq hq' h h' e; exact I.apart q q' hq hq' (hmono q h) (hmono q' h') e
  · -- the heap stays
    have hheap : (tr (m + 1)).2 = (tr m).2 := by
      by_cases hE : (r.kind (r.ix m)).isE = true
      · have hd := hD hE
        have hA : (r.kind (r.ix m)).isA = true := by
          cases hk : r.kind (r.ix m) with
          | A => rfl
          | H => have := I.high m hm (by rw [hk]; rfl) hd; omega
          | L => rw [hk] at hE; simp [Kind.isE] at hE
          | P => rw [hk] at hE; simp [Kind.isE] at hE
        have hw : ¬ wantA (tr m).1 (r.ko (r.ix m)).g = true := fun hw => hp ⟨Nat.le_refl _, hA, hd, hw⟩
        exact (res_unwanted hw (T.step m hm)).2.1
      · exact T.heap ok hm (by simpa using hE)
    have hiff : ∀ q, Pnd r tr D m q → Pnd r tr D (m + 1) q := fun q h => by
      refine ⟨?_, h.2⟩
      rcases Nat.lt_or_ge m q with h' | h'
      · exact h'
      · have : q = m := by have := h.1; omega
        subst this; exact absurd h hp
    have hmono : ∀ q, Pnd r tr D (m + 1) q → Pnd r tr D m q := fun q h => ⟨by have := h.1; omega, h.2⟩
    refine ⟨β, .refl _, ⟨by omega, I.cl, ?_, ?_, by rw [hheap]; exact I.go, I.base, I.size, I.defers, ?_, I.old, ?_, ?_⟩⟩
    · intro q hq hE
      by_cases e : q = m
      · subst e; exact hD hE
      · exact I.low q (by omega) hE
    · intro q hq hH hd
      have := I.high q hq hH hd; omega
    · intro q hq hd t ht
      rcases I.set q hq hd t ht with h | h
      · exact .inl (hiff q h)
      · exact .inr h
    · intro q hq h
      obtain ⟨h1, h2, h3, h4⟩ := I.pend q hq (hmono q h)
      exact ⟨h1, h2, h3, by rw [hheap]; exact h4⟩
    · intro q q' hq hq' h h' e; exact I.apart q q' hq hq' (hmono q h) (hmono q' h') e

theorem Inv.advTo (T : Tr call r tr val) (ok : r.Ok) : ∀ (k : Nat) {m : Nat} {β : Beta}, Inv r tr val B0 n β0 w0 D m β a w bl → m + k ≤ r.N → (∀ q, m ≤ q → q < m + k → (r.kind (r.ix q)).isE = true → D (r.ix q)) → ∃ β', Ext β β' ∧ Inv r tr val B0 n β0 w0 D (m + k) β' a w bl
  | 0, m, β, I, _, _ => ⟨β, .refl _, I⟩
  | k + 1, m, β, I, hk, hD => by
    obtain ⟨β1, e1, I1⟩ := I.adv T ok (by omega) (hD m (Nat.le_refl _) (by omega))
    obtain ⟨β2, e2, I2⟩ := Inv.advTo T ok k I1 (by omega) fun q h1 h2 => hD q (by omega) (by omega)
    exact ⟨β2, e1.trans e2, by have : m + (k + 1) = m + 1 + k := by omega
                               rw [this]; exact I2⟩

/-! ### The slots between -/
open Classical in
noncomputable def pl (r : Rg) (tr : Nat → St) (D : Nat → Prop) (m : Nat) : List Nat := (List.range r.N).filterMap fun q => if Pnd r tr D m q then r.dst (r.ix q) else none
theorem mem_pl {t : Nat} : t ∈ pl r tr D m ↔ ∃ q, q < r.N ∧ Pnd r tr D m q ∧ r.dst (r.ix q) = some t := by
  unfold pl
  simp only [List.mem_filterMap, List.mem_range]
  constructor
  · rintro ⟨q, hq, h⟩
    split at h
    · exact ⟨q, hq, ‹_›, h⟩
    · simp at h
  · rintro ⟨q, hq, h1, h2⟩
    exact ⟨q, hq, by rw [if_pos h1]; exact h2⟩
open Classical in
noncomputable def sm (r : Rg) (tr : Nat → St) (D : Nat → Prop) (m : Nat) : Sl := fun t =>
  if t ∈ pl r tr D m then .c .undef else if ∃ q, q < r.N ∧ D (r.ix q) ∧ r.dst (r.ix q) = some t then (tr r.N).1 t else (tr 0).1 t

theorem Inv.sr (T : Tr call r tr val) (ok : r.Ok) (I : Inv r tr val B0 n β0 w0 D m β a w bl) : SR β (sm r tr D m) (clr (pl r tr D m) a) := by
  refine ⟨fun t => ?_⟩
  rw [clr_get]
  unfold sm
  by_cases h : t ∈ pl r tr D m
  · rw [if_pos h, if_pos h]; rfl
  · rw [if_neg h, if_neg h]
    split
    · rename_i hq
      obtain ⟨q, hq, hd, ht⟩ := hq
      rw [T.set ok hq ht r.N hq (Nat.le_refl _)]
      rcases I.set q hq hd t ht with h' | h'
      · exact absurd (mem_pl.2 ⟨q, hq, h', ht⟩) h
      · exact h'
    · rename_i hq
      exact I.old t fun q hq' hd ht => hq ⟨q, hq', hd, ht⟩

/-- What an operation that is ready looks at stands as it does in the static order. -/
theorem Inv.agree (T : Tr call r tr val) (ok : r.Ok) (ha : r.an = ancsOf r.ops.toList) (I : Inv r tr val B0 n β0 w0 D m β a w bl) {p : Nat} (hp : p < r.N) (hn : ¬ D (r.ix p)) (hdeps : ∀ d ∈ r.deps (r.ix p), D d) (hs : r.sync (r.ix p) = true → p ≤ m) {t : Nat} (ht : t ∈ r.lk (r.ix p)) :
    t ∉ pl r tr D m ∧ sm r tr D m t = (tr p).1 t := by
  have hcl' : Closed r.ops.toList (fun i => D i ∨ i = r.ix p) := by
    rintro i o hi (h | rfl) d hd
    · exact .inl (I.cl i o hi h d hd)
    · refine .inl (hdeps d ?_)
      unfold Rg.deps Rg.oper
      have : r.ops[r.ix p]? = some o := by simpa using hi
      rw [Array.getD_eq_getD_getElem?, this]; exact hd
  by_cases hw : ∃ q, q < r.N ∧ r.dst (r.ix q) = some t
  · obtain ⟨q, hq, hd⟩ := hw
    have huniq : ∀ q', q' < r.N → r.dst (r.ix q') = some t → q' = q := fun q' hq' hd' => ok.inj q' q hq' hq (ok.dst _ _ t (ok.lt q' hq') (ok.lt q hq) hd hd')
    have hnotD : ¬ D (r.ix q) → t ∉ pl r tr D m ∧ sm r tr D m t = (tr 0).1 t := by
      intro hnd
      have h1 : t ∉ pl r tr D m := fun h => by
        obtain ⟨q', hq', hpd, hd'⟩ := mem_pl.1 h
        have := huniq q' hq' hd'; subst this
        exact hnd hpd.2.2.1
      refine ⟨h1, ?_⟩
      unfold sm
      rw [if_neg h1, if_neg]
      rintro ⟨q', hq', hD', hd'⟩
      have := huniq q' hq' hd'; subst this
      exact hnd hD'
    by_cases e : r.ix p = r.ix q
    · have hpq := ok.inj p q hp hq e
      subst hpq
      obtain ⟨h1, h2⟩ := hnotD hn
      refine ⟨h1, h2.trans ?_⟩
      rw [T.old ok p (by omega)]
      intro q' hq' hd'
      have := huniq q' (by omega) hd'; omega
    · rcases (ok.look _ _ t (ok.lt p hp) (ok.lt q hq) hd ht).2 e with h | ⟨h, _⟩
      · -- it is written before
        have hle := Rg.lt_pos ha ok hp hq h
        have hne : q ≠ p := fun e' => e (by rw [e'])
        have hDq : D (r.ix q) := by
          rcases Rg.lt_closed ha hcl' h (.inr rfl) with h' | h'
          · exact h'
          · exact absurd h'.symm e
        have h1 : t ∉ pl r tr D m := fun h' => by
          obtain ⟨q', hq', hpd, hd'⟩ := mem_pl.1 h'
          have := huniq q' hq' hd'; subst this
          have hlA : r.looksA (r.ix p) = true := by
            unfold Rg.looksA
            refine List.any_eq_true.2 ⟨r.ix q', List.mem_range.2 (ok.lt q' hq'), ?_⟩
            rw [hpd.2.1, hd]
            simpa using ht
          have := hs (by unfold Rg.sync; rw [hlA]; simp)
          have := hpd.1
          omega
        refine ⟨h1, ?_⟩
        unfold sm
        rw [if_neg h1, if_pos ⟨q, hq, hDq, hd⟩, T.set ok hq hd r.N hq (Nat.le_refl _), T.set ok hq hd p (by omega) (by omega)]
      · -- it is written after
        have hle := Rg.lt_pos ha ok hq hp h
        obtain ⟨h1, h2⟩ := hnotD fun hDq => hn (Rg.lt_closed ha I.cl h hDq)
        refine ⟨h1, h2.trans ?_⟩
        rw [T.old ok p (by omega)]
        intro q' hq' hd'
        have := huniq q' (by omega) hd'; omega
  · have hno : ∀ q, q < r.N → r.dst (r.ix q) ≠ some t := fun q hq hd => hw ⟨q, hq, hd⟩
    have h1 : t ∉ pl r tr D m := fun h => by
      obtain ⟨q', hq', _, hd'⟩ := mem_pl.1 h
      exact hno q' hq' hd'
    refine ⟨h1, ?_⟩
    unfold sm
    rw [if_neg h1, if_neg (fun ⟨q', hq', _, hd'⟩ => hno q' hq' hd'), T.old ok p (by omega) fun q hq => hno q (by omega)]
end
end Go.Proofs.Ytebdajfangbdpaa.VI
