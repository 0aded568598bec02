/- What functions of the program answer: part Least. -/
import Derived.Test.YtnblibimbggheaaWays3
import Derived.Test.YtnblibimbggheaaTam4
import Derived.Test.YtnblibimbggheaaTam3
import Derived.Test.YtnblibimbggheaaChance
set_option linter.unusedVariables false
set_option linter.unusedSimpArgs false
set_option linter.unusedSectionVars false
namespace Go.Proofs.Ytnblibimbggheaa
open Go Go.Proofs.Ytnblibimbggheaa.VI
set_option maxHeartbeats 16000000
set_option maxRecDepth 20000
/-! Fewest tampers to an amount: the plain part -/
theorem wth_lt {a b : Int} (h0 : 0 ≤ a) (h : a < b) (h5 : b ≤ 5) : wth a < wth b := by
  unfold wth
  repeat' split
  all_goals omega
theorem sumN_app {xs ys : List Nt} : sumN (xs ++ ys) = sumN xs + sumN ys := by
  induction xs with
  | nil => simp [sumN]
  | cons x xs ih => simp only [List.cons_append, sumN, ih]; omega
theorem sumN_cut {xs : List Nt} {k a : Int} : sumN xs < sumN (cutP xs k a) := by
  unfold cutP
  have h1 : sumN xs = sumN (xs.take (cutI a xs)) + sumN (xs.drop (cutI a xs)) := by rw [← sumN_app, List.take_append_drop]
  have h2 := wth_b k
  rw [sumN_app]
  simp only [sumN]
  omega
theorem sumN_set {xs : List Nt} : ∀ {i : Nat} (hi : i < xs.length) {x : Nt}, sumN (xs.set i x) = sumN xs - wth (xs[i]'hi).k + wth x.k := by
  induction xs with
  | nil => intro i hi; simp at hi
  | cons y ys ih =>
    intro i hi x
    match i with
    | 0 => simp only [List.set_cons_zero, sumN, List.getElem_cons_zero]; omega
    | i + 1 =>
      simp only [List.set_cons_succ, sumN, List.getElem_cons_succ]
      rw [ih (by simpa using hi)]; omega
theorem tm_more {p : Pr} (hp : okP p = true) {t : Tm} (h : (tmR p t).2 = 0) : sumN p.xs < sumN (tmR p t).1.xs := by
  unfold tmR at h ⊢
  by_cases k1 : t.k = 1
  · rw [if_pos k1] at h ⊢
    by_cases i0 : t.ix = 0
    · rw [if_pos i0] at h ⊢
      unfold cnR at h ⊢
      by_cases c1 : (0 ≤ t.to ∧ t.to ≤ 5) ∧ 0 ≤ t.at_ ∧ t.at_ ≤ 200
      · rw [if_pos c1] at h ⊢
        by_cases c2 : okH (cutP p.xs t.to t.at_) p.g = true
        · rw [if_pos c2]; exact sumN_cut
        · rw [if_neg c2] at h; exact absurd h (by decide)
      · rw [if_neg c1] at h; exact absurd h (by decide)
    · rw [if_neg i0] at h; exact absurd h (by decide)
  · rw [if_neg k1] at h ⊢
    by_cases k2 : t.k = 2
    · rw [if_pos k2] at h ⊢
      unfold wiR at h ⊢
      by_cases c1 : t.at_ = 0 ∧ (0 ≤ t.to ∧ t.to ≤ 5) ∧ 0 ≤ t.ix ∧ t.ix < p.xs.length
      · rw [if_pos c1] at h ⊢
        by_cases c2 : t.to ≤ (p.xs.getD t.ix.toNat ⟨0, 0⟩).k
        · rw [if_pos c2] at h; exact absurd h (by decide)
        · rw [if_neg c2] at h ⊢
          by_cases c3 : okH (setN p.xs t.ix.toNat t.to) p.g = true
          · rw [if_pos c3]
            have hi : t.ix.toNat < p.xs.length := by omega
            rw [getD_at hi] at c2
            have hk := (okH_p hp).2.1 _ (List.getElem_mem hi)
            have hk0 : 0 ≤ (p.xs[t.ix.toNat]'hi).k := by
              have := hk; unfold okN at this; simp at this; omega
            have hw := wth_lt hk0 (Int.not_le.1 c2) c1.2.1.2
            show sumN p.xs < sumN (setN p.xs t.ix.toNat t.to)
            unfold setN
            rw [sumN_set hi]
            dsimp only
            omega
          · rw [if_neg c3] at h; exact absurd h (by decide)
      · rw [if_neg c1] at h; exact absurd h (by decide)
    · rw [if_neg k2] at h; exact absurd h (by decide)
end Go.Proofs.Ytnblibimbggheaa
