/- What functions of the program answer: part Copies. -/
import Derived.Test.YtnblibimbggheaaWood
set_option linter.unusedVariables false
set_option linter.unusedSimpArgs false
set_option linter.unusedSectionVars false
namespace Go.Proofs.Ytnblibimbggheaa
open Go Go.Proofs.Ytnblibimbggheaa.VI
set_option maxHeartbeats 16000000
set_option maxRecDepth 20000
/-! Copies of halves -/
abbrev ncpy (xs : List Nt) : Option Blk := some ⟨119, nrows xs, .own⟩
theorem nts_cpyk {H : AHeap} {k : Nat} {xs : List Nt} {t : List (Option Blk)} (h : t[k]? = some (ncpy xs)) : Nts (H ++ t) (some (H.length + k, 0)) xs := fun _ => ⟨H.length + k, 119, .own, rfl, by rw [get_app, h]; rfl⟩
abbrev hc (e : TypeId) (st : Bool) (p : Option (Nat × Nat)) (n : Nat) (cap : Cap) (g : List Int) : Option Blk := some ⟨e, hrow st p n cap g, .own⟩
theorem grow_ok {g : List Int} : (grow g).all CV.ok = true := by simp [grow, CV.ok]
theorem okH_p {xs : List Nt} {g : List Int} (h : okH xs g = true) : xs.length ≤ 60 ∧ (∀ x ∈ xs, okN x = true) ∧ g.all gq = true := by
  unfold okH at h
  rw [Bool.and_eq_true, Bool.and_eq_true] at h
  obtain ⟨⟨h1, h2⟩, h3⟩ := h
  refine ⟨of_decide_eq_true h1, ?_, h3⟩
  have : ∀ (ys : List Nt) (pv : Option Nt), ntsG pv ys = true → ∀ x ∈ ys, okN x = true := by
    intro ys
    induction ys with
    | nil => intro _ _ x hx; cases hx
    | cons y ys ih =>
      intro pv h x hx
      have h : ((okN y && nxtOk pv y) && ntsG (some y) ys) = true := h
      rw [Bool.and_eq_true, Bool.and_eq_true] at h
      rcases List.mem_cons.1 hx with rfl | hx
      · exact h.1.1
      · exact ih _ h.2 x hx
  exact this xs none h2
end Go.Proofs.Ytnblibimbggheaa
