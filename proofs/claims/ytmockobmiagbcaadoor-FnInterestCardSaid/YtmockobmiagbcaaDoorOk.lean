/- What functions of the program answer: part Ok. -/
import Derived.Test.YtmockobmiagbcaaDoorCode
import Derived.Test.YtmockobmiagbcaaDoorNats
import Derived.Test.YtmockobmiagbcaaDoorDec
import Derived.Test.YtmockobmiagbcaaDoorViE
set_option linter.unusedVariables false
set_option linter.unusedSimpArgs false
set_option linter.unusedSectionVars false
namespace Go.Proofs.YtmockobmiagbcaaDoor
open Go Go.RowKit Go.Proofs.YtmockobmiagbcaaDoor.VI
theorem ok66 : NatOk Tryd.prog 66 1 decA := nat_dec fn66 fun n w hn => (dec_calls n hn w).mono fun e w' h => ⟨by rw [h.1]; simp [decB, decD_eq], h.2⟩
theorem callok : CallOk Tryd.prog (ev kk) := ev_okN (by kernel_rfl) (fun f kf h => by
  unfold kk at h
  split at h
  · rename_i hf; subst hf; injection h with h; subst h
    exact .inr ⟨2, 3, _, rfl, ok30⟩
  split at h
  · rename_i hf; subst hf; injection h with h; subst h
    exact .inr ⟨2, 1, _, rfl, ok58⟩
  split at h
  · rename_i hf; subst hf; injection h with h; subst h
    exact .inr ⟨2, 1, _, rfl, ok61⟩
  split at h
  · rename_i hf; subst hf; injection h with h; subst h
    exact .inr ⟨2, 1, _, rfl, ok62⟩
  split at h
  · rename_i hf; subst hf; injection h with h; subst h
    exact .inr ⟨2, 1, _, rfl, ok70⟩
  split at h
  · rename_i hf; subst hf; injection h with h; subst h
    exact .inr ⟨1, 1, _, rfl, ok66⟩
  exact .inl ⟨_, h⟩)
end Go.Proofs.YtmockobmiagbcaaDoor
