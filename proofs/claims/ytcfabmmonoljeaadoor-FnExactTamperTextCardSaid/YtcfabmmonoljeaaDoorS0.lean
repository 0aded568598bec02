/- What functions of the program answer: part S0. -/
import Derived.Test.YtcfabmmonoljeaaDoorCode
import Derived.Test.YtcfabmmonoljeaaDoorViE
set_option linter.unusedVariables false
set_option linter.unusedSimpArgs false
set_option linter.unusedSectionVars false
namespace Go.Proofs.YtcfabmmonoljeaaDoor
open Go Go.Proofs.YtcfabmmonoljeaaDoor.VI
set_option maxHeartbeats 16000000
set_option maxRecDepth 20000
/-! Bytes of texts -/
theorem str_ne_self {a : ByteArray} : strBin .neq a a = some (.bool false) := by
  show some (CV.bool (!(a.toList == a.toList))) = _
  rw [beq_self_eq_true]; rfl
end Go.Proofs.YtcfabmmonoljeaaDoor
