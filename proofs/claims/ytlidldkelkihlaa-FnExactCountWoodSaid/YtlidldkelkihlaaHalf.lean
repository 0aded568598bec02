/- What functions of the program answer: part Half. -/
import Derived.Test.YtlidldkelkihlaaCode
import Derived.Test.YtlidldkelkihlaaViLoop
set_option linter.unusedVariables false
set_option linter.unusedSimpArgs false
set_option linter.unusedSectionVars false
namespace Go.Proofs.Ytlidldkelkihlaa
open Go Go.Proofs.Ytlidldkelkihlaa.VI
set_option maxHeartbeats 16000000
set_option maxRecDepth 20000
/-! Grains -/
abbrev grow (g : List Int) : List CV := g.map (CV.int .i8)
/-! Notches -/
structure Nt where
  k : Int
  a : Int
section
variable {xs : List Nt} {i : Nat} (hi : i < xs.length)
include hi
end
end Go.Proofs.Ytlidldkelkihlaa
