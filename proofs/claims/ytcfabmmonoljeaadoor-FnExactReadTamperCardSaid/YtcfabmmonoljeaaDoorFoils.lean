/- What functions of the program answer: part Foils. -/
import Derived.Test.YtcfabmmonoljeaaDoorGrains
set_option linter.unusedVariables false
set_option linter.unusedSimpArgs false
set_option linter.unusedSectionVars false
namespace Go.Proofs.YtcfabmmonoljeaaDoor
open Go Go.Proofs.YtcfabmmonoljeaaDoor.VI
set_option maxHeartbeats 16000000
set_option maxRecDepth 20000
/-! Halves in a slice -/
section
variable {hs : List Hf} {i : Nat} (hi : i < hs.length)
include hi
theorem hr0 : (hrows hs)[i * 18]? = some (.bool (hs[i]'hi).st) := by
  have := rows_get hfr_len hi (j := 0) (by omega); simpa using this
theorem hr1 : (hrows hs)[i * 18 + 1]? = some (.slice (hs[i]'hi).p (hs[i]'hi).xs.length (hs[i]'hi).cap) := by
  have := rows_get hfr_len hi (j := 1) (by omega); simpa using this
theorem hr2 : ((hrows hs).drop (i * 18 + 2)).take 16 = grow (hs[i]'hi).g := by
  have h := hcut hi
  have h2 : ((hrows hs).drop (i * 18 + 2)).take 16 = (((hrows hs).drop (i * 18)).take 18).drop 2 := by
    rw [List.drop_take, List.drop_drop]
  rw [h2, h]; rfl
end
/-! Whether they fit -/
end Go.Proofs.YtcfabmmonoljeaaDoor
