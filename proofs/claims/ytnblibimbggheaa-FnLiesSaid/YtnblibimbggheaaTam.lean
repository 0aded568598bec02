/- What functions of the program answer: part Tam. -/
import Derived.Test.YtnblibimbggheaaCut4
import Derived.Test.YtnblibimbggheaaInspect
set_option linter.unusedVariables false
set_option linter.unusedSimpArgs false
set_option linter.unusedSectionVars false
namespace Go.Proofs.Ytnblibimbggheaa
open Go Go.Proofs.Ytnblibimbggheaa.VI
set_option maxHeartbeats 16000000
set_option maxRecDepth 20000
theorem getD_at {xs : List Nt} {i : Nat} (hi : i < xs.length) : xs.getD i ⟨0, 0⟩ = xs[i]'hi := by rw [List.getD_eq_getElem?_getD, List.getElem?_eq_getElem hi]; rfl
theorem setN_rng {xs : List Nt} {i : Nat} {k : Int} (hi : i < xs.length) (h : ∀ x ∈ xs, rngN x) (hk : -128 ≤ k ∧ k ≤ 127) : ∀ x ∈ setN xs i k, rngN x := by
  intro x hx
  unfold setN at hx
  rcases List.mem_or_eq_of_mem_set hx with hx | rfl
  · exact h x hx
  · rw [getD_at hi]
    exact ⟨hk, (h _ (List.getElem_mem hi)).2⟩
theorem setN_len {xs : List Nt} {i : Nat} {k : Int} : (setN xs i k).length = xs.length := List.length_set ..
theorem okP_few {h : Hf} (o : okF h = true) : h.xs.length ≤ 60 := (okH_p o).1
end Go.Proofs.Ytnblibimbggheaa
