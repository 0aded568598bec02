/- What functions of the program answer: part Ok2. -/
import Derived.Test.YtcfabmmonoljeaaDoorOk
import Derived.Test.YtcfabmmonoljeaaDoorDec
import Derived.Test.YtcfabmmonoljeaaDoorInsB
set_option linter.unusedVariables false
set_option linter.unusedSimpArgs false
set_option linter.unusedSectionVars false
namespace Go.Proofs.YtcfabmmonoljeaaDoor
open Go Go.RowKit Go.Proofs.YtcfabmmonoljeaaDoor.VI
theorem ok80 : NatOk Tryd.prog 80 1 decA := nat_dec fn80 fun n w hn => (dec_calls n hn w).mono fun e w' h => ⟨by rw [h.1]; simp [decB, decD_eq], h.2⟩
theorem callok : CallOk Tryd.prog (ev kk) := callok_of ok80 (nat_ins insRun)
end Go.Proofs.YtcfabmmonoljeaaDoor
