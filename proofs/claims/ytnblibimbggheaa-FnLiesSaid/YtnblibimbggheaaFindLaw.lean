/- What functions of the program answer: part FindLaw. -/
import Derived.Test.YtnblibimbggheaaSlices
import Derived.Test.YtnblibimbggheaaFind
import Derived.Test.YtnblibimbggheaaViE
set_option linter.unusedVariables false
set_option linter.unusedSimpArgs false
set_option linter.unusedSectionVars false
namespace Go.Proofs.Ytnblibimbggheaa
open Go Go.Proofs.Ytnblibimbggheaa.VI
set_option maxHeartbeats 16000000
set_option maxRecDepth 20000
theorem SameHs.of {hs ys zs : List Hf} (h : SameHs hs ys) (h' : SameHs hs zs) : SameHs ys zs := by
  refine ⟨by rw [h'.1, h.1], fun j h1 h2 => ?_⟩
  have h0 : j < hs.length := by rw [← h.1]; exact h1
  obtain ⟨a1, a2, a3⟩ := h.2 j h0 h1
  obtain ⟨b1, b2, b3⟩ := h'.2 j h0 h2
  exact ⟨by rw [b1, a1], by rw [b2, a2], by rw [b3, a3]⟩
end Go.Proofs.Ytnblibimbggheaa
