/- What functions of the program answer: part Chance. -/
import Derived.Test.YtnblibimbggheaaTmL
import Derived.Test.YtnblibimbggheaaSmall
set_option linter.unusedVariables false
set_option linter.unusedSimpArgs false
set_option linter.unusedSectionVars false
namespace Go.Proofs.Ytnblibimbggheaa
open Go Go.Proofs.Ytnblibimbggheaa.VI
set_option maxHeartbeats 16000000
set_option maxRecDepth 20000
/-! Ways are ways -/
theorem wkF_mem {p : Pr} {i : Int} {t : Tm} : ∀ {n : Nat} {k : Int}, t ∈ wkF p i n k → (tmR p t).2 = 0 ∧ ∃ k', k ≤ k' ∧ k' < k + n ∧ t = ⟨2, k', i, 0⟩
  | 0, k, h => by cases h
  | n + 1, k, h => by
    unfold wkF at h
    rcases List.mem_append.1 h with h | h
    · split at h
      · rename_i c
        simp at h; subst h
        exact ⟨c, k, by omega, by omega, rfl⟩
      · cases h
    · obtain ⟨a, k', h1, h2, h3⟩ := wkF_mem h
      exact ⟨a, k', by omega, by omega, h3⟩
theorem wiF_mem {p : Pr} {t : Tm} : ∀ {n : Nat} {i : Int}, t ∈ wiF p n i → (tmR p t).2 = 0 ∧ ∃ k i', (0 ≤ k ∧ k ≤ 5) ∧ i ≤ i' ∧ i' < i + n ∧ t = ⟨2, k, i', 0⟩
  | 0, i, h => by cases h
  | n + 1, i, h => by
    unfold wiF at h
    rcases List.mem_append.1 h with h | h
    · obtain ⟨a, k', h1, h2, h3⟩ := wkF_mem h
      exact ⟨a, k', i, by omega, by omega, by omega, h3⟩
    · obtain ⟨a, k, i', h1, h2, h3, h4⟩ := wiF_mem h
      exact ⟨a, k, i', h1, by omega, by omega, h4⟩
theorem rmF_ok {p : Pr} {k x : Int} : ∀ {n : Nat} {a : Int}, x ∈ rmF p k n a → (tmR p ⟨1, k, 0, x⟩).2 = 0
  | 0, a, h => by cases h
  | n + 1, a, h => by
    unfold rmF at h
    rcases List.mem_append.1 h with h | h
    · split at h
      · rename_i c
        simp at h; subst h; exact c
      · cases h
    · exact rmF_ok h
theorem adF_mem {p : Pr} {t : Tm} : ∀ {n : Nat} {k : Int}, t ∈ adF p n k → (tmR p t).2 = 0 ∧ ∃ k' a, k ≤ k' ∧ k' < k + n ∧ (0 ≤ a ∧ a ≤ 200) ∧ t = ⟨1, k', 0, a⟩
  | 0, k, h => by cases h
  | n + 1, k, h => by
    unfold adF at h
    rcases List.mem_append.1 h with h | h
    · have hr := fun x => rmF_rng (p := p) (k := k) (n := 201) (a := 0) (x := x)
      have ho := fun x => rmF_ok (p := p) (k := k) (n := 201) (a := 0) (x := x)
      cases hl : rmF p k 201 0 with
      | nil => rw [hl] at h; cases h
      | cons a l =>
        rw [hl] at h hr ho
        have h : t ∈ [(⟨1, k, 0, a⟩ : Tm)] := h
        simp at h; subst h
        have := hr a (by simp)
        exact ⟨ho a (by simp), k, a, by omega, by omega, by omega, rfl⟩
    · obtain ⟨a, k', x, h1, h2, h3⟩ := adF_mem h
      exact ⟨a, k', x, by omega, by omega, h3⟩
theorem ways_mem {p : Pr} (hp : p.xs.length ≤ 60) {t : Tm} (h : t ∈ waysP p) : rngT t ∧ (tmR p t).2 = 0 := by
  unfold waysP at h
  rcases List.mem_append.1 h with h | h
  · obtain ⟨a, k, i, h1, h2, h3, rfl⟩ := wiF_mem h
    exact ⟨by unfold rngT; dsimp only; omega, a⟩
  · obtain ⟨a, k, x, h1, h2, h3, rfl⟩ := adF_mem h
    exact ⟨by unfold rngT; dsimp only; omega, a⟩
/-! Tampering by chance -/
def zTm : Tm := ⟨0, 0, 0, 0⟩
end Go.Proofs.Ytnblibimbggheaa
