/- What functions of the program answer: part LawG. -/
import Derived.Test.YtcfabmmonoljeaaDoorCut4
import Derived.Test.YtcfabmmonoljeaaDoorMarks
import Derived.Test.YtcfabmmonoljeaaDoorLies2
import Derived.Test.YtcfabmmonoljeaaDoorHalvesInv
set_option linter.unusedVariables false
set_option linter.unusedSimpArgs false
set_option linter.unusedSectionVars false
namespace Go.Proofs.YtcfabmmonoljeaaDoor
open Go Go.Proofs.YtcfabmmonoljeaaDoor.VI
set_option maxHeartbeats 16000000
set_option maxRecDepth 20000
/-! What a law makes of its arguments -/
structure HfOwn (H J : AHeap) (y : Hf) : Prop where
  few : y.xs.length ≤ 1048576
  rng : ∀ x ∈ y.xs, rngN x
  own : ∃ id, y.p = some (id, 0) ∧ H.length ≤ id ∧ J.get id = ncpy y.xs
theorem HfOwn.nw {H J : AHeap} {y : Hf} (h : HfOwn H J y) : HfNw H J y := by
  obtain ⟨id, h1, h2, h3⟩ := h.own
  exact ⟨by have := h.few; omega, h.rng, fun _ => ⟨id, .own, h1, h2, h3, .inl rfl⟩⟩
theorem HfOwn.at_ {H J : AHeap} {y : Hf} (h : HfOwn H J y) : HfAt J y := h.nw.at_
theorem HfOwn.pre {H J K : AHeap} {y : Hf} (h : HfOwn H J y) (k : Pre J K) : HfOwn H K y := by
  obtain ⟨id, h1, h2, h3⟩ := h.own
  exact ⟨h.few, h.rng, id, h1, h2, k.get h3⟩
end Go.Proofs.YtcfabmmonoljeaaDoor
