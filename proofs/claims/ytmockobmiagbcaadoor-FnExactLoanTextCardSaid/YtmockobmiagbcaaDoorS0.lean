/- What functions of the program answer: part S0. -/
import Derived.Test.YtmockobmiagbcaaDoorCode
import Derived.Test.YtmockobmiagbcaaDoorViE
set_option linter.unusedVariables false
set_option linter.unusedSimpArgs false
set_option linter.unusedSectionVars false
namespace Go.Proofs.YtmockobmiagbcaaDoor
open Go Go.Proofs.YtmockobmiagbcaaDoor.VI
set_option maxHeartbeats 16000000
set_option maxRecDepth 20000
/-! Bytes of texts -/
theorem tol {a : List UInt8} : (⟨a.toArray⟩ : ByteArray).toList = a := by rw [ByteArray.toList_eq]
theorem str_neq {a b : List UInt8} : strBin .neq ⟨a.toArray⟩ ⟨b.toArray⟩ = some (.bool (!(decide (a = b)))) := by
  show some (CV.bool (!((⟨a.toArray⟩ : ByteArray).toList == (⟨b.toArray⟩ : ByteArray).toList))) = _
  rw [tol, tol]
  congr 3
  rw [Bool.eq_iff_iff, beq_iff_eq, decide_eq_true_iff]
theorem str_ne_self {a : ByteArray} : strBin .neq a a = some (.bool false) := by
  show some (CV.bool (!(a.toList == a.toList))) = _
  rw [beq_self_eq_true]; rfl
end Go.Proofs.YtmockobmiagbcaaDoor
