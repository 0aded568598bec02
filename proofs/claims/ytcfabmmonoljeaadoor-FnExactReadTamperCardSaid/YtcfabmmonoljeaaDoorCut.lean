/- What functions of the program answer: part Cut. -/
import Derived.Test.YtcfabmmonoljeaaDoorTm
set_option linter.unusedVariables false
set_option linter.unusedSimpArgs false
set_option linter.unusedSectionVars false
namespace Go.Proofs.YtcfabmmonoljeaaDoor
open Go Go.Proofs.YtcfabmmonoljeaaDoor.VI
set_option maxHeartbeats 16000000
set_option maxRecDepth 20000
/-! A further notch -/
/-- New halves. -/
structure HfNw (H J : AHeap) (y : Hf) : Prop where
  few : y.xs.length ≤ 4398046511104
  rng : ∀ x ∈ y.xs, rngN x
  new : NwN H J y.p y.xs
theorem HfNw.at_ {H J : AHeap} {y : Hf} (h : HfNw H J y) : HfAt J y := ⟨h.few, h.rng, h.new.nts⟩
theorem HfNw.pre {H J K : AHeap} {y : Hf} (h : HfNw H J y) (k : Pre J K) : HfNw H K y := ⟨h.few, h.rng, h.new.pre k⟩
theorem HfNw.base {G H J : AHeap} {y : Hf} (h : HfNw H J y) (k : Pre G H) : HfNw G J y := ⟨h.few, h.rng, h.new.base k⟩
end Go.Proofs.YtcfabmmonoljeaaDoor
