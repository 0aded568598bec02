/- An interpreter over an abstract heap, and its soundness over the machine: part Drawn4. -/
import Derived.Test.YtebdajfangbdpaaViDrawn3
set_option linter.unusedVariables false
set_option linter.unusedSimpArgs false
set_option linter.unusedSectionVars false
namespace Go.Proofs.Ytebdajfangbdpaa.VI
open Go Go.RowKit

theorem put_get_same {a : Act} {t : Nat} {x : Value} (h : t < a.tmps.size) : (a.put (some t) x).tmps.getD t Go.undef = x := by
  simp [Act.put, Array.getD_eq_getD_getElem?, h]
theorem put_get_ne {a : Act} {d : Option Nat} {t : Nat} {x : Value} (h : d ≠ some t) : (a.put d x).tmps.getD t Go.undef = a.tmps.getD t Go.undef := by
  cases d with
  | none => rfl
  | some u =>
    have hne : u ≠ t := fun e => h (by rw [e])
    simp only [Act.put, Array.getD_eq_getD_getElem?, Array.getElem?_setIfInBounds_ne hne]

/-! ### The steps, one by one -/
structure Tr (call : CallA) (r : Rg) (tr : Nat → St) (val : Nat → AV) : Prop where
  step : ∀ p, p < r.N → resKO call (r.ko (r.ix p)) (tr p).1 (tr p).2 = some (val p, (tr (p + 1)).2)
  slot : ∀ p, p < r.N → (tr (p + 1)).1 = putS (tr p).1 (r.dst (r.ix p)) (val p)
  again : ∀ p, p < r.N → (r.kind (r.ix p)).isE = true → ∀ q, q < p → (r.kind (r.ix q)).isL = true → r.lt (r.ix q) (r.ix p) = false → rcOk (tr (p + 1)) (r.ko (r.ix q))

theorem drawn_trace {call : CallA} : ∀ {l : List (KO × List KO)} {s s' : St}, evalDrawn call l s = some s' →
    ∃ (tr : Nat → St) (val : Nat → AV), tr 0 = s ∧ tr l.length = s' ∧ ∀ (p : Nat) (x : KO × List KO), l[p]? = some x → resKO call x.1 (tr p).1 (tr p).2 = some (val p, (tr (p + 1)).2) ∧ (tr (p + 1)).1 = putS (tr p).1 x.1.dst (val p) ∧ ∀ o ∈ x.2, rcOk (tr (p + 1)) o
  | [], s, s', h => by
    simp only [evalDrawn, Option.some.injEq] at h; subst h
    exact ⟨fun _ => s, fun _ => .c .undef, rfl, rfl, fun p x hx => by simp at hx⟩
  | x :: l, s, s', h => by
    simp only [evalDrawn, Option.bind_eq_some_iff] at h
    obtain ⟨s1, h1, h2⟩ := h
    split at h2
    case isFalse => simp at h2
    rename_i hrc
    obtain ⟨tr, val, e0, e1, hall⟩ := drawn_trace h2
    simp only [evalOps, Option.bind_eq_some_iff] at h1
    obtain ⟨s2, h3, h4⟩ := h1
    simp only [Option.some.injEq] at h4; subst h4
    rw [evalKO_res] at h3
    simp only [Option.map_eq_some_iff] at h3
    obtain ⟨⟨v, H'⟩, h5, h6⟩ := h3
    refine ⟨fun p => match p with | 0 => s | p + 1 => tr p, fun p => match p with | 0 => v | p + 1 => val p, rfl, e1, ?_⟩
    intro p y hy
    cases p with
    | zero =>
      simp at hy; subst hy
      simp only [e0, ← h6]
      rw [← h6] at hrc
      exact ⟨h5, trivial, hrc⟩
    | succ p =>
      simp at hy
      exact hall p y hy

theorem trace_of {call : CallA} {r : Rg} {s s' : St} (h : evalDrawn call r.steps s = some s') (hlen : r.s.length = r.N) : ∃ tr val, Tr call r tr val ∧ tr 0 = s ∧ tr r.N = s' := by
  obtain ⟨tr, val, e0, e1, hall⟩ := drawn_trace h
  have hl : r.steps.length = r.N := by simp [Rg.steps]
  rw [hl] at e1
  have hg : ∀ p, p < r.N → r.steps[p]? = some (r.step p) := by intro p hp; simp [Rg.steps, hp]
  refine ⟨tr, val, ⟨fun p hp => (hall p _ (hg p hp)).1, fun p hp => (hall p _ (hg p hp)).2.1, fun p hp hE q hq hL hlt => ?_⟩, e0, e1⟩
  refine (hall p _ (hg p hp)).2.2 _ ?_
  unfold Rg.step
  rw [if_pos hE]
  refine List.mem_map.2 ⟨r.ix q, List.mem_filter.2 ⟨Rg.take_mem (by omega) hq, ?_⟩, rfl⟩
  rw [hL, hlt]; rfl

section
variable {call : CallA} {r : Rg} {tr : Nat → St} {val : Nat → AV} (T : Tr call r tr val) (ok : r.Ok)
include T ok

theorem Tr.set {p t : Nat} (hp : p < r.N) (ht : r.dst (r.ix p) = some t) : ∀ m, p < m → m ≤ r.N → (tr m).1 t = val p := by
  intro m
  induction m with
  | zero => intro h; omega
  | succ m ih =>
    intro h hm
    rw [T.slot m (by omega)]
    by_cases e : m = p
    · subst e; rw [ht]; simp [putS, upd]
    · have : r.dst (r.ix m) ≠ some t := by
        intro hd
        have := ok.dst _ _ t (ok.lt m (by omega)) (ok.lt p hp) ht hd
        exact e (ok.inj m p (by omega) hp this)
      have : putS (tr m).1 (r.dst (r.ix m)) (val m) t = (tr m).1 t := by
        cases hd : r.dst (r.ix m) with
        | none => rfl
        | some u =>
          have hne : t ≠ u := fun e => this (by rw [hd, e])
          simp [putS, upd, hne]
      rw [this]
      exact ih (by omega) (by omega)
theorem Tr.old {t : Nat} : ∀ m, m ≤ r.N → (∀ p, p < m → r.dst (r.ix p) ≠ some t) → (tr m).1 t = (tr 0).1 t := by
  intro m
  induction m with
  | zero => intro _ _; rfl
  | succ m ih =>
    intro hm h
    rw [T.slot m (by omega)]
    have : putS (tr m).1 (r.dst (r.ix m)) (val m) t = (tr m).1 t := by
      cases hd : r.dst (r.ix m) with
      | none => rfl
      | some u =>
        have hne : t ≠ u := fun e => h m (by omega) (by rw [hd, e])
        simp [putS, upd, hne]
    rw [this]
    exact ih (by omega) fun p hp => h p (by omega)
theorem Tr.heap {p : Nat} (hp : p < r.N) (hE : (r.kind (r.ix p)).isE = false) : (tr (p + 1)).2 = (tr p).2 := res_nonE hE (T.step p hp)

/-- Slots that were looked at are the same later, too, for a load. -/
theorem Tr.loadSlots (ha : r.an = ancsOf r.ops.toList) {q : Nat} (hq : q < r.N) (hL : (r.kind (r.ix q)).isL = true) {t : Nat} (ht : t ∈ r.lk (r.ix q)) {m : Nat} (hm : q ≤ m) (hmN : m ≤ r.N) : (tr m).1 t = (tr q).1 t := by
  by_cases hw : ∃ p, p < r.N ∧ r.dst (r.ix p) = some t
  · obtain ⟨p, hp, hd⟩ := hw
    obtain ⟨h1, h2⟩ := ok.look _ _ t (ok.lt q hq) (ok.lt p hp) hd ht
    by_cases e : r.ix q = r.ix p
    · rw [h1 e] at hL; simp at hL
    · rcases h2 e with h | ⟨_, h⟩
      · have hle := Rg.lt_pos ha ok hq hp h
        have hne : p ≠ q := fun e' => e (by rw [e'])
        rw [T.set ok hp hd m (by omega) hmN, T.set ok hp hd q (by omega) (by omega)]
      · rw [h] at hL; simp at hL
  · have hno : ∀ p, p < r.N → r.dst (r.ix p) ≠ some t := fun p hp hd => hw ⟨p, hp, hd⟩
    rw [T.old ok m hmN fun p hp => hno p (by omega), T.old ok q (by omega) fun p hp => hno p (by omega)]

/-- A load tells the same as long as what has been done since does not wait for it. -/
theorem Tr.reload (ha : r.an = ancsOf r.ops.toList) {q : Nat} (hq : q < r.N) (hL : (r.kind (r.ix q)).isL = true) {σ : Sl} (hσ : ∀ t ∈ (r.ko (r.ix q)).lk, σ t = (tr q).1 t) :
    ∀ m, q ≤ m → m ≤ r.N → (∀ p, q < p → p < m → (r.kind (r.ix p)).isE = true → r.lt (r.ix q) (r.ix p) = false) → resKO call (r.ko (r.ix q)) σ (tr m).2 = some (val q, (tr m).2) := by
  have hE : (r.kind (r.ix q)).isE = false := by
    cases hk : r.kind (r.ix q) <;> rw [hk] at hL <;> simp [Kind.isL] at hL <;> rfl
  have hlk : ∀ t ∈ (r.ko (r.ix q)).lk, t ∈ r.lk (r.ix q) := fun t ht => by unfold Rg.lk; simp [ht]
  intro m
  induction m with
  | zero =>
    intro h _ _
    have : q = 0 := by omega
    subst this
    have := T.step 0 hq
    rw [T.heap ok hq hE] at this
    rw [res_congr hσ]; exact this
  | succ m ih =>
    intro h hm hno
    by_cases e : q = m + 1
    · subst e
      have := T.step (m + 1) hq
      rw [T.heap ok hq hE] at this
      rw [res_congr hσ]; exact this
    · have ihm := ih (by omega) (by omega) fun p h1 h2 h3 => hno p h1 (by omega) h3
      by_cases hEm : (r.kind (r.ix m)).isE = true
      · by_cases hqm : q = m
        · subst hqm; rw [hEm] at hE; simp at hE
        · have hrc := T.again m (by omega) hEm q (by omega) hL (hno m (by omega) (by omega) hEm)
          have hag : ∀ t ∈ (r.ko (r.ix q)).lk, σ t = (tr (m + 1)).1 t := fun t ht => by rw [hσ t ht, T.loadSlots ok ha hq hL (hlk t ht) (by omega) hm]
          unfold rcOk at hrc
          unfold resKO
          rw [want_congr' hag]
          by_cases hw : wantA (tr (m + 1)).1 (r.ko (r.ix q)).g = true
          · rw [if_pos hw]
            have := hrc hw
            obtain ⟨d, hd⟩ := ok.load _ (ok.lt q hq) hL
            have hd' : (r.ko (r.ix q)).dst = some d := hd
            rw [hd'] at this
            simp only [T.set ok hq hd (m + 1) (by omega) hm] at this
            have hkL : (r.ko (r.ix q)).op.kind = .L := by
              have : (r.kind (r.ix q)) = (r.ko (r.ix q)).op.kind := rfl
              rw [← this]
              cases hk : r.kind (r.ix q) <;> rw [hk] at hL <;> simp [Kind.isL] at hL <;> rfl
            rw [evalOp_congr (σ2 := (tr (m + 1)).1) fun t ht => hag t (ko_lk_op ht), load_call hkL (call2 := fun _ _ _ => none)]
            exact this
          · rw [if_neg hw]
            have hst := T.step q hq
            have hw2 : ¬ wantA (tr q).1 (r.ko (r.ix q)).g = true := by
              rw [← want_congr' (σ := (tr (m + 1)).1) fun t ht => by rw [← hag t ht, hσ t ht]]; exact hw
            rw [(res_unwanted hw2 hst).1]
      · have hEm' : (r.kind (r.ix m)).isE = false := by simpa using hEm
        rw [T.heap ok (by omega) hEm']
        exact ihm
end
end Go.Proofs.Ytebdajfangbdpaa.VI
