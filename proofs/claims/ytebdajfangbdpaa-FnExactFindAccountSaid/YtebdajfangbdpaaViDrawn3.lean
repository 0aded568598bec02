/- An interpreter over an abstract heap, and its soundness over the machine: part Drawn3. -/
import Derived.Test.YtebdajfangbdpaaViDrawn2
set_option linter.unusedVariables false
set_option linter.unusedSimpArgs false
set_option linter.unusedSectionVars false
namespace Go.Proofs.Ytebdajfangbdpaa.VI
open Go Go.RowKit

/-! ### The static order -/
theorem maskOf_bit (acc : List Nat) : ∀ (ds : List Nat) (m i : Nat), (ds.foldl (fun m d => m ||| 2 ^ d ||| acc.getD d 0) m).testBit i = true → m.testBit i = true ∨ ∃ d ∈ ds, d = i ∨ (acc.getD d 0).testBit i = true
  | [], m, i, h => .inl h
  | d :: ds, m, i, h => by
    rw [List.foldl_cons] at h
    rcases maskOf_bit acc ds _ i h with h | ⟨d', h1, h2⟩
    · simp only [Nat.testBit_or, Bool.or_eq_true, Nat.testBit_two_pow, decide_eq_true_eq] at h
      rcases h with (h | h) | h
      · exact .inl h
      · exact .inr ⟨d, by simp, .inl h⟩
      · exact .inr ⟨d, by simp, .inr h⟩
    · exact .inr ⟨d', by simp [h1], h2⟩

/-- What holds of an operation holds of all that it waits for. -/
def Closed (l : List Oper) (D : Nat → Prop) : Prop := ∀ (i : Nat) (o : Oper), l[i]? = some o → D i → ∀ d ∈ depsO o, D d
theorem ancs_len (l : List Oper) : ∀ acc : List Nat, (l.foldl (fun acc o => acc ++ [maskOf acc (depsO o)]) acc).length = acc.length + l.length := by
  induction l with
  | nil => intro acc; simp
  | cons o l ih => intro acc; rw [List.foldl_cons, ih]; simp; omega
theorem ancs_closed {D : Nat → Prop} : ∀ (l pre : List Oper) (acc : List Nat), Closed (pre ++ l) D → acc.length = pre.length → (∀ j i, (acc.getD j 0).testBit i = true → D j → D i) →
    ∀ j i, ((l.foldl (fun acc o => acc ++ [maskOf acc (depsO o)]) acc).getD j 0).testBit i = true → D j → D i
  | [], pre, acc, _, _, h => h
  | o :: l, pre, acc, hD, hl, h => by
    rw [List.foldl_cons]
    refine ancs_closed l (pre ++ [o]) _ (by simpa using hD) (by simp [hl]) ?_
    intro j i hb hj
    rcases Nat.lt_trichotomy j acc.length with hlt | heq | hgt
    · rw [List.getD_eq_getElem?_getD, List.getElem?_append_left hlt, ← List.getD_eq_getElem?_getD] at hb
      exact h j i hb hj
    · subst heq
      rw [List.getD_eq_getElem?_getD, List.getElem?_append_right (Nat.le_refl _), Nat.sub_self] at hb
      simp only [List.getElem?_cons_zero, Option.getD_some] at hb
      unfold maskOf at hb
      have hdeps : ∀ d ∈ depsO o, D d := hD acc.length o (by rw [hl]; simp) hj
      rcases maskOf_bit acc _ _ i hb with h0 | ⟨d, h1, h2⟩
      · simp at h0
      · rcases h2 with rfl | h2
        · exact hdeps _ h1
        · exact h d i h2 (hdeps d h1)
    · rw [List.getD_eq_getElem?_getD, List.getElem?_eq_none (by simp; omega)] at hb
      simp at hb

namespace Rg
variable {r : Rg}
theorem lt_closed (ha : r.an = ancsOf r.ops.toList) {D : Nat → Prop} (hD : Closed r.ops.toList D) {i j : Nat} (h : r.lt i j = true) (hj : D j) : D i := by
  unfold lt at h
  rw [ha] at h
  exact ancs_closed r.ops.toList [] [] (by simpa using hD) rfl (fun j i hb => by simp at hb) j i h hj

/-- What the check says, place by place. -/
structure Ok (r : Rg) : Prop where
  len : r.s.length = r.N
  surj : ∀ i, i < r.N → ∃ p, p < r.N ∧ r.ix p = i
  lt : ∀ p, p < r.N → r.ix p < r.N
  inj : ∀ p q, p < r.N → q < r.N → r.ix p = r.ix q → p = q
  deps : ∀ p, p < r.N → ∀ d ∈ r.deps (r.ix p), ∃ q, q < p ∧ r.ix q = d
  sync : ∀ p, p < r.N → r.sync (r.ix p) = true → ∀ q, q < p → (r.kind (r.ix q)).isE = true → r.lt (r.ix q) (r.ix p) = true
  dst : ∀ i k t, i < r.N → k < r.N → r.dst k = some t → r.dst i = some t → i = k
  look : ∀ i k t, i < r.N → k < r.N → r.dst k = some t → t ∈ r.lk i → (i = k → (r.kind i).isL = false) ∧ (i ≠ k → r.lt k i = true ∨ (r.lt i k = true ∧ (r.kind i).isL = false))
  load : ∀ i, i < r.N → (r.kind i).isL = true → ∃ t, r.dst i = some t

theorem mem_take {l : List Nat} {p d : Nat} (hp : p ≤ l.length) (h : d ∈ l.take p) : ∃ q, q < p ∧ l.getD q 0 = d := by
  obtain ⟨q, hq⟩ := List.getElem?_of_mem h
  have hlt : q < p := by have := (List.getElem?_eq_some_iff.1 hq).1; simp at this; omega
  rw [List.getElem?_take_of_lt hlt] at hq
  exact ⟨q, hlt, by rw [List.getD_eq_getElem?_getD, hq]; rfl⟩
theorem take_mem {l : List Nat} {p q : Nat} (hp : p ≤ l.length) (hq : q < p) : l.getD q 0 ∈ l.take p := by
  have : (l.take p)[q]? = some (l.getD q 0) := by
    rw [List.getElem?_take_of_lt hq, List.getD_eq_getElem?_getD, List.getElem?_eq_getElem (by omega)]; rfl
  exact List.mem_of_getElem? this

theorem ok_of (h : r.ok = true) : r.Ok := by
  unfold ok at h
  simp only [Bool.and_eq_true, List.all_eq_true, List.mem_range, decide_eq_true_eq, beq_iff_eq, List.contains_iff_mem, Bool.or_eq_true, Bool.not_eq_true'] at h
  obtain ⟨⟨⟨⟨⟨h1, h2⟩, h3⟩, h4⟩, h5⟩, h6⟩ := h
  have hp : ∀ p, p < r.N → p ≤ r.s.length := fun p hp => by omega
  refine ⟨h1, ?_, fun p hp => (h3 p hp).1.1, ?_, ?_, ?_, ?_, ?_, ?_⟩
  · intro i hi
    obtain ⟨p, hpp⟩ := List.getElem?_of_mem (h2 i hi)
    have := (List.getElem?_eq_some_iff.1 hpp).1
    exact ⟨p, by omega, by unfold ix; rw [List.getD_eq_getElem?_getD, hpp]; rfl⟩
  · intro p q hpN hqN he
    rcases Nat.lt_trichotomy p q with h | h | h
    · have := (h3 q hqN).1.2
      have hm := take_mem (hp q hqN) h
      rw [show r.s.getD p 0 = r.ix q from he] at hm
      rw [← List.contains_iff_mem, this] at hm; simp at hm
    · exact h
    · have := (h3 p hpN).1.2
      have hm := take_mem (hp p hpN) h
      rw [show r.s.getD q 0 = r.ix p from he.symm] at hm
      rw [← List.contains_iff_mem, this] at hm; simp at hm
  · intro p hpN d hd
    exact mem_take (hp p hpN) ((h3 p hpN).2 d hd)
  · intro p hpN hs q hq hE
    rcases h4 p hpN with h | h
    · rw [hs] at h; simp at h
    · rcases h _ (take_mem (hp p hpN) hq) with h | h
      · have : (r.kind (r.s.getD q 0)).isE = true := hE
        rw [this] at h; simp at h
      · exact h
  · intro i k t hi hk hdk hdi
    have := h5 i hi k hk
    rw [hdk] at this
    simp only [Bool.and_eq_true, Bool.or_eq_true, beq_iff_eq, bne_iff_ne] at this
    rcases this.1 with h | h
    · exact h
    · exact absurd hdi h
  · intro i k t hi hk hdk ht
    have := h5 i hi k hk
    rw [hdk] at this
    simp only [Bool.and_eq_true, Bool.or_eq_true, Bool.not_eq_true'] at this
    rcases this.2 with h | h
    · rw [← List.contains_iff_mem, h] at ht; simp at ht
    · refine ⟨fun e => ?_, fun e => ?_⟩
      · rw [if_pos e] at h; simpa using h
      · rw [if_neg e] at h
        simpa using h
  · intro i hi hL
    rcases h6 i hi with h | h
    · rw [hL] at h; simp at h
    · exact Option.isSome_iff_exists.1 h

theorem lt_pos (ha : r.an = ancsOf r.ops.toList) (ok : r.Ok) {p q : Nat} (hp : p < r.N) (hq : q < r.N) (h : r.lt (r.ix q) (r.ix p) = true) : q ≤ p := by
  have hD : Closed r.ops.toList (fun i => ∃ q', q' ≤ p ∧ r.ix q' = i) := by
    rintro i o hi ⟨q', hq', rfl⟩ d hd
    have : r.oper (r.ix q') = o := by
      unfold oper
      have : r.ops[r.ix q']? = some o := by simpa using hi
      rw [Array.getD_eq_getD_getElem?, this]; rfl
    obtain ⟨q'', h1, h2⟩ := ok.deps q' (by omega) d (by unfold deps; rw [this]; exact hd)
    exact ⟨q'', by omega, h2⟩
  obtain ⟨q', h1, h2⟩ := lt_closed ha hD h ⟨p, Nat.le_refl _, rfl⟩
  have := ok.inj q' q (by omega) hq h2
  omega
end Rg
end Go.Proofs.Ytebdajfangbdpaa.VI
