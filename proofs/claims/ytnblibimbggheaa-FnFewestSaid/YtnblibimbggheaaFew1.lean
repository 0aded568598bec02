/- What functions of the program answer: part Few1. -/
import Derived.Test.YtnblibimbggheaaLeast7
import Derived.Test.YtnblibimbggheaaAll
set_option linter.unusedVariables false
set_option linter.unusedSimpArgs false
set_option linter.unusedSectionVars false
namespace Go.Proofs.Ytnblibimbggheaa
open Go Go.Proofs.Ytnblibimbggheaa.VI
set_option maxHeartbeats 16000000
set_option maxRecDepth 20000
/-! Fewest: the plain part -/
/-- So many tampers lead from one half to the other. -/
def chn (p : Pr) : Nat → Pr → Prop
  | 0, q => q = p
  | n + 1, q => ∃ r, chn p n r ∧ ∃ t ∈ waysP r, q = (tmR r t).1
theorem chn_ok {p : Pr} (hp : okP p = true) : ∀ {n : Nat} {q : Pr}, chn p n q → okP q = true
  | 0, _, h => by rw [h]; exact hp
  | n + 1, q, ⟨r, h, t, ht, e⟩ => by
    have hr := chn_ok hp h
    rw [e]; exact tm_ok (ways_mem (okH_p hr).1 ht).2
theorem ltA_some {p : Pr} {a : Int} : ∀ {ts : List Tm}, (∃ t ∈ ts, sumN (tmR p t).1.xs = a) → ∃ t, ltA p a ts = some t ∧ t ∈ ts ∧ sumN (tmR p t).1.xs = a
  | [], ⟨t, h, _⟩ => by cases h
  | s :: ts, ⟨t, h, e⟩ => by
    unfold ltA
    by_cases hs : sumN (tmR p s).1.xs = a
    · rw [if_pos hs]; exact ⟨s, rfl, by simp, hs⟩
    · rw [if_neg hs]
      rcases List.mem_cons.1 h with rfl | h
      · exact absurd e hs
      · obtain ⟨t', h1, h2, h3⟩ := ltA_some ⟨t, h, e⟩
        exact ⟨t', h1, by simp [h2], h3⟩
theorem ltA_of {p : Pr} {a : Int} : ∀ {ts : List Tm} {t : Tm}, ltA p a ts = some t → t ∈ ts ∧ sumN (tmR p t).1.xs = a
  | [], t, h => by cases h
  | s :: ts, t, h => by
    unfold ltA at h
    by_cases hs : sumN (tmR p s).1.xs = a
    · rw [if_pos hs] at h; injection h with h; subst h; exact ⟨by simp, hs⟩
    · rw [if_neg hs] at h
      have := ltA_of h
      exact ⟨by simp [this.1], this.2⟩
theorem ltB_some {p : Pr} {a : Int} : ∀ {ts : List Tm}, (∃ t ∈ ts, ∃ w ∈ waysP (tmR p t).1, sumN (tmR (tmR p t).1 w).1.xs = a) → ∃ t w, ltB p a ts = some (t, w) ∧ t ∈ ts ∧ w ∈ waysP (tmR p t).1 ∧ sumN (tmR (tmR p t).1 w).1.xs = a
  | [], ⟨t, h, _⟩ => by cases h
  | s :: ts, ⟨t, h, e⟩ => by
    unfold ltB
    cases hs : ltA (tmR p s).1 a (waysP (tmR p s).1) with
    | some w =>
      have := ltA_of hs
      exact ⟨s, w, rfl, by simp, this.1, this.2⟩
    | none =>
      rcases List.mem_cons.1 h with rfl | h
      · obtain ⟨w, hw, e⟩ := e
        obtain ⟨t', h1, _⟩ := ltA_some ⟨w, hw, e⟩
        rw [hs] at h1; cases h1
      · obtain ⟨t', w, h1, h2, h3, h4⟩ := ltB_some ⟨t, h, e⟩
        exact ⟨t', w, h1, by simp [h2], h3, h4⟩
theorem amt_ok {p : Pr} (hp : okP p = true) : amt (sumN p.xs) = true := by
  have h1 := (okH_p hp).1
  have h2 := sumN_b (xs := p.xs)
  unfold amt
  exact decide_eq_true (by omega)
theorem taR_0 {p : Pr} (hp : okP p = true) : taR p [] = ((p, 0), 0) := by
  unfold taR
  have e : taF p [] = (p, 0) := rfl
  rw [if_pos hp, if_neg (by decide), e, if_pos rfl]
  rfl
theorem taR_1 {p : Pr} (hp : okP p = true) {t : Tm} (h : (tmR p t).2 = 0) : taR p [t] = (((tmR p t).1, 1), 0) := by
  have e : taF p [t] = ((tmR p t).1, 0) := by
    unfold taF; rw [if_pos h]; unfold taF; rfl
  unfold taR
  rw [if_pos hp, if_neg (show ¬ 40 < [t].length by simp), e, if_pos rfl]
  rfl
theorem taR_2 {p : Pr} (hp : okP p = true) {t w : Tm} (h : (tmR p t).2 = 0) (h2 : (tmR (tmR p t).1 w).2 = 0) : taR p [t, w] = (((tmR (tmR p t).1 w).1, 2), 0) := by
  have e : taF p [t, w] = ((tmR (tmR p t).1 w).1, 0) := by
    unfold taF; rw [if_pos h]; unfold taF; rw [if_pos h2]; unfold taF; rfl
  unfold taR
  rw [if_pos hp, if_neg (show ¬ 40 < [t, w].length by simp), e, if_pos rfl]
  rfl
theorem ltR_e {p : Pr} (hp : okP p = true) {a : Int} (ha : amt a = true) (e : sumN p.xs = a) : ltR p a 2 = ([], 0) := by
  unfold ltR
  rw [if_pos hp, if_pos ⟨by omega, ha⟩, if_pos e]
theorem ltR_a {p : Pr} (hp : okP p = true) {a : Int} (ha : amt a = true) (e : ¬ sumN p.xs = a) {t : Tm} (h : ltA p a (waysP p) = some t) : ltR p a 2 = ([t], 0) := by
  unfold ltR
  rw [if_pos hp, if_pos ⟨by omega, ha⟩, if_neg e, if_neg (by omega), h]
theorem ltR_b {p : Pr} (hp : okP p = true) {a : Int} (ha : amt a = true) (e : ¬ sumN p.xs = a) (h : ltA p a (waysP p) = none) {t w : Tm} (h2 : ltB p a (waysP p) = some (t, w)) : ltR p a 2 = ([t, w], 0) := by
  unfold ltR
  rw [if_pos hp, if_pos ⟨by omega, ha⟩, if_neg e, if_neg (by omega), h]
  dsimp only
  rw [if_neg (by omega), h2]
/-- What is found, and what it leads to. -/
def Found (p : Pr) (a : Int) (n : Nat) (ts : List Tm) : Prop := ts.length ≤ n ∧ (∀ t ∈ ts, rngT t) ∧ ∃ r, taR p ts = ((r, (ts.length : Int)), 0) ∧ okP r = true ∧ sumN r.xs = a
theorem found_1 {p : Pr} (hp : okP p = true) {a : Int} {t : Tm} (h : t ∈ waysP p) (e : sumN (tmR p t).1.xs = a) : Found p a 1 [t] := by
  have hw := ways_mem (okH_p hp).1 h
  exact ⟨Nat.le_refl _, fun u hu => by rw [List.mem_singleton.1 hu]; exact hw.1, (tmR p t).1, taR_1 hp hw.2, tm_ok hw.2, e⟩
theorem found_2 {p : Pr} (hp : okP p = true) {a : Int} {t w : Tm} (h : t ∈ waysP p) (h' : w ∈ waysP (tmR p t).1) (e : sumN (tmR (tmR p t).1 w).1.xs = a) : Found p a 2 [t, w] := by
  have m1 := ways_mem (okH_p hp).1 h
  have m2 := ways_mem (okH_p (tm_ok m1.2)).1 h'
  refine ⟨Nat.le_refl _, fun u hu => ?_, (tmR (tmR p t).1 w).1, taR_2 hp m1.2 m2.2, tm_ok m2.2, e⟩
  rcases List.mem_cons.1 hu with rfl | hu
  · exact m1.1
  · rw [List.mem_singleton.1 hu]; exact m2.1
theorem Found.le {p : Pr} {a : Int} {n m : Nat} {ts : List Tm} (h : Found p a n ts) (hm : n ≤ m) : Found p a m ts := ⟨Nat.le_trans h.1 hm, h.2⟩
theorem lt_found {p q : Pr} (hp : okP p = true) {n : Nat} (hn : n ≤ 2) (h : chn p n q) : ∃ ts, ltR p (sumN q.xs) 2 = (ts, 0) ∧ Found p (sumN q.xs) n ts := by
  have hq := chn_ok hp h
  have ha := amt_ok hq
  by_cases e0 : sumN p.xs = sumN q.xs
  · exact ⟨[], ltR_e hp ha e0, Nat.zero_le _, (fun t ht => nomatch ht), p, taR_0 hp, hp, e0⟩
  have n0 : n ≠ 0 := fun e => by subst e; exact e0 (by rw [show q = p from h])
  cases hA : ltA p (sumN q.xs) (waysP p) with
  | some t =>
    have := ltA_of hA
    exact ⟨[t], ltR_a hp ha e0 hA, (found_1 hp this.1 this.2).le (by omega)⟩
  | none =>
    have two : ∃ t ∈ waysP p, ∃ w ∈ waysP (tmR p t).1, sumN (tmR (tmR p t).1 w).1.xs = sumN q.xs ∧ n = 2 := by
      have hn12 : n = 1 ∨ n = 2 := by omega
      rcases hn12 with rfl | rfl
      · obtain ⟨r, h1, t, ht, e⟩ := h
        have h1 : r = p := h1
        rw [h1] at ht e
        obtain ⟨t', h2, _⟩ := ltA_some (a := sumN q.xs) ⟨t, ht, by rw [e]⟩
        rw [hA] at h2; cases h2
      · obtain ⟨r, ⟨r', h1, t, ht, e1⟩, w, hw, e⟩ := h
        have h1 : r' = p := h1
        rw [h1] at ht e1
        rw [e1] at hw e
        exact ⟨t, ht, w, hw, by rw [e], rfl⟩
    obtain ⟨t, ht, w, hw, e, rfl⟩ := two
    obtain ⟨t', w', h2, h3, h4, h5⟩ := ltB_some ⟨t, ht, w, hw, e⟩
    exact ⟨[t', w'], ltR_b hp ha e0 hA h2, found_2 hp h3 h4 h5⟩
end Go.Proofs.Ytnblibimbggheaa
