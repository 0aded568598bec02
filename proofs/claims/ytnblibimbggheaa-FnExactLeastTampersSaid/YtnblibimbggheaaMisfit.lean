/- What functions of the program answer: part Misfit. -/
import Derived.Test.YtnblibimbggheaaHalvesInv
import Derived.Test.YtnblibimbggheaaFind
set_option linter.unusedVariables false
set_option linter.unusedSimpArgs false
set_option linter.unusedSectionVars false
namespace Go.Proofs.Ytnblibimbggheaa
open Go Go.Proofs.Ytnblibimbggheaa.VI
set_option maxHeartbeats 16000000
set_option maxRecDepth 20000
/-! Notches that do not fit -/
end Go.Proofs.Ytnblibimbggheaa
