/- What functions of the program answer: part Foils. -/
import Derived.Test.YtlidldkelkihlaaGrains
set_option linter.unusedVariables false
set_option linter.unusedSimpArgs false
set_option linter.unusedSectionVars false
namespace Go.Proofs.Ytlidldkelkihlaa
open Go Go.Proofs.Ytlidldkelkihlaa.VI
set_option maxHeartbeats 16000000
set_option maxRecDepth 20000
/-! Halves in a slice -/
section
variable {hs : List Hf} {i : Nat} (hi : i < hs.length)
include hi
end
/-! Whether they fit -/
end Go.Proofs.Ytlidldkelkihlaa
