/- What functions of the program answer: part Copies. -/
import Derived.Test.YtlidldkelkihlaaWood
set_option linter.unusedVariables false
set_option linter.unusedSimpArgs false
set_option linter.unusedSectionVars false
namespace Go.Proofs.Ytlidldkelkihlaa
open Go Go.Proofs.Ytlidldkelkihlaa.VI
set_option maxHeartbeats 16000000
set_option maxRecDepth 20000
/-! Copies of halves -/
abbrev hc (e : TypeId) (st : Bool) (p : Option (Nat × Nat)) (n : Nat) (cap : Cap) (g : List Int) : Option Blk := some ⟨e, hrow st p n cap g, .own⟩
end Go.Proofs.Ytlidldkelkihlaa
