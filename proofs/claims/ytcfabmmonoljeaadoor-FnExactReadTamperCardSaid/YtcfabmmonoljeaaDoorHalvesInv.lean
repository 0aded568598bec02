/- What functions of the program answer: part HalvesInv. -/
import Derived.Test.YtcfabmmonoljeaaDoorSlices
set_option linter.unusedVariables false
set_option linter.unusedSimpArgs false
set_option linter.unusedSectionVars false
namespace Go.Proofs.YtcfabmmonoljeaaDoor
open Go Go.Proofs.YtcfabmmonoljeaaDoor.VI
set_option maxHeartbeats 16000000
set_option maxRecDepth 20000
/-- What is known of a half that is handed in. -/
structure HfIn (H : AHeap) (h : Hf) : Prop where
  few : h.xs.length ≤ 1152921504606846976
  rng : ∀ x ∈ h.xs, rngN x
  at_ : Nts H h.p h.xs
theorem HfIn.app {H : AHeap} {h : Hf} (q : HfIn H h) (t : List (Option Blk)) : HfIn (H ++ t) h := ⟨q.few, q.rng, q.at_.app t⟩
theorem HfIn.at {H : AHeap} {h : Hf} (q : HfIn H h) (hl : h.xs.length ≤ 4398046511104) : HfAt H h := ⟨hl, q.rng, q.at_⟩
/-! Copies behind a heap -/
end Go.Proofs.YtcfabmmonoljeaaDoor
