/- What functions of the program answer: part S0. -/
import Derived.Test.YtmockobmiagbcaaDoorCode
import Derived.Test.YtmockobmiagbcaaDoorViE
set_option linter.unusedVariables false
set_option linter.unusedSimpArgs false
set_option linter.unusedSectionVars false
namespace Go.Proofs.YtmockobmiagbcaaDoor
open Go Go.Proofs.YtmockobmiagbcaaDoor.VI
set_option maxHeartbeats 16000000
set_option maxRecDepth 20000
/-! Bytes of texts -/
theorem bget {l : List UInt8} {i : Nat} (h : i < l.length) : (⟨l.toArray⟩ : ByteArray)[i]? = some (l[i]'h) := by
  have hs : i < (⟨l.toArray⟩ : ByteArray).size := by show i < l.toArray.size; simpa using h
  rw [getElem?_pos (⟨l.toArray⟩ : ByteArray) i hs]
  rfl
theorem bsize {l : List UInt8} : (⟨l.toArray⟩ : ByteArray).size = l.length := by show l.toArray.size = _; simp
theorem tol {a : List UInt8} : (⟨a.toArray⟩ : ByteArray).toList = a := by rw [ByteArray.toList_eq]
theorem str_eql {a b : List UInt8} : strBin .eql ⟨a.toArray⟩ ⟨b.toArray⟩ = some (.bool (decide (a = b))) := by
  show some (CV.bool ((⟨a.toArray⟩ : ByteArray).toList == (⟨b.toArray⟩ : ByteArray).toList)) = _
  rw [tol, tol]
  congr 2
  rw [Bool.eq_iff_iff, beq_iff_eq, decide_eq_true_iff]
theorem str_neq {a b : List UInt8} : strBin .neq ⟨a.toArray⟩ ⟨b.toArray⟩ = some (.bool (!(decide (a = b)))) := by
  show some (CV.bool (!((⟨a.toArray⟩ : ByteArray).toList == (⟨b.toArray⟩ : ByteArray).toList))) = _
  rw [tol, tol]
  congr 3
  rw [Bool.eq_iff_iff, beq_iff_eq, decide_eq_true_iff]
end Go.Proofs.YtmockobmiagbcaaDoor
