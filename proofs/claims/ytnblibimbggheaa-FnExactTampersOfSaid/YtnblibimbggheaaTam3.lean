/- What functions of the program answer: part Tam3. -/
import Derived.Test.YtnblibimbggheaaTam2
import Derived.Test.YtnblibimbggheaaSums
set_option linter.unusedVariables false
set_option linter.unusedSimpArgs false
set_option linter.unusedSectionVars false
namespace Go.Proofs.Ytnblibimbggheaa
open Go Go.Proofs.Ytnblibimbggheaa.VI
set_option maxHeartbeats 16000000
set_option maxRecDepth 20000
/-! Tampering with a half -/
theorem hfr_ok {h : Hf} : (hfr h).all CV.ok = true := by simp only [List.all_cons, grow_ok]; rfl
theorem hfr_t {h : Hf} : List.take 18 (hfr h) = hfr h := List.take_of_length_le (by rw [hfr_len]; omega)
/-! What is gained -/
end Go.Proofs.Ytnblibimbggheaa
