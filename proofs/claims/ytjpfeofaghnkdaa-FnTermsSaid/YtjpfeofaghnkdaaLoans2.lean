/- What functions of the program answer: part Loans2. -/
import Derived.Test.YtjpfeofaghnkdaaLoans
set_option linter.unusedVariables false
set_option linter.unusedSimpArgs false
set_option linter.unusedSectionVars false
namespace Go.Proofs.Ytjpfeofaghnkdaa
open Go Go.Proofs.Ytjpfeofaghnkdaa.VI
set_option maxHeartbeats 8000000
set_option maxRecDepth 20000
end Go.Proofs.Ytjpfeofaghnkdaa
