/- What functions of the program answer: part RateFor. -/
import Derived.Test.YtjpfeofaghnkdaaSrc
set_option linter.unusedVariables false
set_option linter.unusedSimpArgs false
set_option linter.unusedSectionVars false
namespace Go.Proofs.Ytjpfeofaghnkdaa
open Go Go.Proofs.Ytjpfeofaghnkdaa.VI
set_option maxHeartbeats 16000000
set_option maxRecDepth 20000
/-! The least rate for which something is paid -/
end Go.Proofs.Ytjpfeofaghnkdaa
