/- What functions of the program answer: part Near. -/
import Derived.Test.YtlidldkelkihlaaMisfit
set_option linter.unusedVariables false
set_option linter.unusedSimpArgs false
set_option linter.unusedSectionVars false
namespace Go.Proofs.Ytlidldkelkihlaa
open Go Go.Proofs.Ytlidldkelkihlaa.VI
set_option maxHeartbeats 16000000
set_option maxRecDepth 20000
theorem hfr_g {h : Hf} : ∀ i (q : i < h.g.length), (hfr h)[2 + i]? = some (.int .i8 h.g[i]) := by
  intro i q
  rw [Nat.add_comm]
  show (grow h.g)[i]? = _
  rw [List.getElem?_map, List.getElem?_eq_getElem q]; rfl
/-! The nearest -/
end Go.Proofs.Ytlidldkelkihlaa
