/- What functions of the program answer: part Copies. -/
import Derived.Test.YtcfabmmonoljeaaDoorHalf2
set_option linter.unusedVariables false
set_option linter.unusedSimpArgs false
set_option linter.unusedSectionVars false
namespace Go.Proofs.YtcfabmmonoljeaaDoor
open Go Go.Proofs.YtcfabmmonoljeaaDoor.VI
set_option maxHeartbeats 16000000
set_option maxRecDepth 20000
/-! Copies of halves -/
abbrev ncpy (xs : List Nt) : Option Blk := some ⟨91, nrows xs, .own⟩
theorem nts_cpyk {H : AHeap} {k : Nat} {xs : List Nt} {t : List (Option Blk)} (h : t[k]? = some (ncpy xs)) : Nts (H ++ t) (some (H.length + k, 0)) xs := fun _ => ⟨H.length + k, 91, .own, rfl, by rw [get_app, h]; rfl⟩
abbrev hc (e : TypeId) (st : Bool) (p : Option (Nat × Nat)) (n : Nat) (cap : Cap) (g : List Int) : Option Blk := some ⟨e, hrow st p n cap g, .own⟩
end Go.Proofs.YtcfabmmonoljeaaDoor
