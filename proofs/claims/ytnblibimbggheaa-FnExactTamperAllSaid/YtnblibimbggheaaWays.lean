/- What functions of the program answer: part Ways. -/
import Derived.Test.YtnblibimbggheaaMarkH
set_option linter.unusedVariables false
set_option linter.unusedSimpArgs false
set_option linter.unusedSectionVars false
namespace Go.Proofs.Ytnblibimbggheaa
open Go Go.Proofs.Ytnblibimbggheaa.VI
set_option maxHeartbeats 16000000
set_option maxRecDepth 20000
/-! The ways to tamper with a half -/
abbrev trows (ts : List Tm) : List CV := (ts.map trow).flatten
theorem trow_len (t : Tm) : (trow t).length = 4 := rfl
theorem trowl {ts : List Tm} : (trows ts).length = ts.length * 4 := rows_len trow_len
/-! Room -/
end Go.Proofs.Ytnblibimbggheaa
