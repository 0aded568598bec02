/- What functions of the program answer: part Grow. -/
import Derived.Test.YtjpfeofaghnkdaaRate
set_option linter.unusedVariables false
set_option linter.unusedSimpArgs false
set_option linter.unusedSectionVars false
namespace Go.Proofs.Ytjpfeofaghnkdaa
open Go Go.Proofs.Ytjpfeofaghnkdaa.VI
set_option maxHeartbeats 8000000
end Go.Proofs.Ytjpfeofaghnkdaa
