/- What functions of the program answer: part Wear. -/
import Derived.Test.YtnblibimbggheaaGrains
set_option linter.unusedVariables false
set_option linter.unusedSimpArgs false
set_option linter.unusedSectionVars false
namespace Go.Proofs.Ytnblibimbggheaa
open Go Go.Proofs.Ytnblibimbggheaa.VI
set_option maxHeartbeats 16000000
set_option maxRecDepth 20000
end Go.Proofs.Ytnblibimbggheaa
