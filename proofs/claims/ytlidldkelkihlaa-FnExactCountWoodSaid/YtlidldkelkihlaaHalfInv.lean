/- What functions of the program answer: part HalfInv. -/
import Derived.Test.YtlidldkelkihlaaCopies
import Derived.Test.YtlidldkelkihlaaViInv
set_option linter.unusedVariables false
set_option linter.unusedSimpArgs false
set_option linter.unusedSectionVars false
namespace Go.Proofs.Ytlidldkelkihlaa
open Go Go.Proofs.Ytlidldkelkihlaa.VI
set_option maxHeartbeats 4000000
end Go.Proofs.Ytlidldkelkihlaa
