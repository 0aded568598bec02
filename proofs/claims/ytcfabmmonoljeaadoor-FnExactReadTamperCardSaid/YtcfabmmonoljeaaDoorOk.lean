/- What functions of the program answer: part Ok. -/
import Derived.Test.YtcfabmmonoljeaaDoorCode
import Derived.Test.YtcfabmmonoljeaaDoorNats
import Derived.Test.YtcfabmmonoljeaaDoorViE
set_option linter.unusedVariables false
set_option linter.unusedSimpArgs false
set_option linter.unusedSectionVars false
namespace Go.Proofs.YtcfabmmonoljeaaDoor
open Go Go.RowKit Go.Proofs.YtcfabmmonoljeaaDoor.VI
theorem callok_of (h80 : NatOk Tryd.prog 80 1 decA) (h92 : NatOk Tryd.prog 92 3 (insA 91 2 4)) : CallOk Tryd.prog (ev kk) := ev_okN (by kernel_rfl) (fun f kf h => by
  unfold kk at h
  split at h
  · rename_i hf; subst hf; injection h with h; subst h
    exact .inr ⟨2, 1, _, rfl, ok41⟩
  split at h
  · rename_i hf; subst hf; injection h with h; subst h
    exact .inr ⟨2, 1, _, rfl, ok43⟩
  split at h
  · rename_i hf; subst hf; injection h with h; subst h
    exact .inr ⟨2, 1, _, rfl, ok75⟩
  split at h
  · rename_i hf; subst hf; injection h with h; subst h
    exact .inr ⟨1, 1, _, rfl, h80⟩
  split at h
  · rename_i hf; subst hf; injection h with h; subst h
    exact .inr ⟨3, 1, _, rfl, h92⟩
  exact .inl ⟨_, h⟩)
end Go.Proofs.YtcfabmmonoljeaaDoor
