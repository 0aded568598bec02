/- What functions of the program answer: part Half2. -/
import Derived.Test.YtcfabmmonoljeaaDoorHalf
set_option linter.unusedVariables false
set_option linter.unusedSimpArgs false
set_option linter.unusedSectionVars false
namespace Go.Proofs.YtcfabmmonoljeaaDoor
open Go Go.Proofs.YtcfabmmonoljeaaDoor.VI
set_option maxHeartbeats 16000000
set_option maxRecDepth 20000
abbrev hrow (st : Bool) (p : Option (Nat × Nat)) (n : Nat) (cap : Cap) (g : List Int) : List CV := .bool st :: .slice p n cap :: grow g
end Go.Proofs.YtcfabmmonoljeaaDoor
