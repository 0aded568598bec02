/- What functions of the program answer: part Wood. -/
import Derived.Test.YtnblibimbggheaaHalf2
set_option linter.unusedVariables false
set_option linter.unusedSimpArgs false
set_option linter.unusedSectionVars false
namespace Go.Proofs.Ytnblibimbggheaa
open Go Go.Proofs.Ytnblibimbggheaa.VI
set_option maxHeartbeats 16000000
set_option maxRecDepth 20000
/-! Wood -/
end Go.Proofs.Ytnblibimbggheaa
