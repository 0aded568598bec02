/- What functions of the program answer: part Tam3. -/
import Derived.Test.YtnblibimbggheaaTam2
import Derived.Test.YtnblibimbggheaaSums
set_option linter.unusedVariables false
set_option linter.unusedSimpArgs false
set_option linter.unusedSectionVars false
namespace Go.Proofs.Ytnblibimbggheaa
open Go Go.Proofs.Ytnblibimbggheaa.VI
set_option maxHeartbeats 16000000
set_option maxRecDepth 20000
/-! Tampering with a half -/
theorem hfr_ok {h : Hf} : (hfr h).all CV.ok = true := by simp only [List.all_cons, grow_ok]; rfl
theorem hfr_t {h : Hf} : List.take 18 (hfr h) = hfr h := List.take_of_length_le (by rw [hfr_len]; omega)
theorem cn_ok {p : Pr} {k a : Int} (h : (cnR p k a).2 = 0) : okP (cnR p k a).1 = true := by
  unfold cnR at h ⊢
  by_cases c1 : (0 ≤ k ∧ k ≤ 5) ∧ 0 ≤ a ∧ a ≤ 200
  · rw [if_pos c1] at h ⊢
    by_cases c2 : okH (cutP p.xs k a) p.g = true
    · rw [if_pos c2]; exact c2
    · rw [if_neg c2] at h; simp at h
  · rw [if_neg c1] at h; simp at h
theorem wi_ok {p : Pr} {t : Tm} (h : (wiR p t).2 = 0) : okP (wiR p t).1 = true := by
  unfold wiR at h ⊢
  by_cases c1 : t.at_ = 0 ∧ (0 ≤ t.to ∧ t.to ≤ 5) ∧ 0 ≤ t.ix ∧ t.ix < p.xs.length
  · rw [if_pos c1] at h ⊢
    by_cases c2 : t.to ≤ (p.xs.getD t.ix.toNat ⟨0, 0⟩).k
    · rw [if_pos c2] at h; simp at h
    · rw [if_neg c2] at h ⊢
      by_cases c3 : okH (setN p.xs t.ix.toNat t.to) p.g = true
      · rw [if_pos c3]; exact c3
      · rw [if_neg c3] at h; simp at h
  · rw [if_neg c1] at h; simp at h
theorem tm_ok {p : Pr} {t : Tm} (h : (tmR p t).2 = 0) : okP (tmR p t).1 = true := by
  unfold tmR at h ⊢
  by_cases k1 : t.k = 1
  · rw [if_pos k1] at h ⊢
    by_cases i0 : t.ix = 0
    · rw [if_pos i0] at h ⊢; exact cn_ok h
    · rw [if_neg i0] at h; simp at h
  · rw [if_neg k1] at h ⊢
    by_cases k2 : t.k = 2
    · rw [if_pos k2] at h ⊢; exact wi_ok h
    · rw [if_neg k2] at h; simp at h
/-! What is gained -/
end Go.Proofs.Ytnblibimbggheaa
