/- What functions of the program answer: part Wood. -/
import Derived.Test.YtlidldkelkihlaaHalf2
set_option linter.unusedVariables false
set_option linter.unusedSimpArgs false
set_option linter.unusedSectionVars false
namespace Go.Proofs.Ytlidldkelkihlaa
open Go Go.Proofs.Ytlidldkelkihlaa.VI
set_option maxHeartbeats 16000000
set_option maxRecDepth 20000
/-! Wood -/
end Go.Proofs.Ytlidldkelkihlaa
