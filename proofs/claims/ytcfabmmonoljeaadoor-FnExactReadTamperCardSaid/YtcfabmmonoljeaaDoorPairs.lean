/- What functions of the program answer: part Pairs. -/
import Derived.Test.YtcfabmmonoljeaaDoorCopies
import Derived.Test.YtcfabmmonoljeaaDoorViE
set_option linter.unusedVariables false
set_option linter.unusedSimpArgs false
set_option linter.unusedSectionVars false
namespace Go.Proofs.YtcfabmmonoljeaaDoor
open Go Go.Proofs.YtcfabmmonoljeaaDoor.VI
set_option maxHeartbeats 16000000
set_option maxRecDepth 20000
/-! Whether wood is in wood -/
/-! Halves -/
structure Hf where
  st : Bool
  p : Option (Nat × Nat)
  cap : Cap
  xs : List Nt
  g : List Int
  g16 : g.length = 16
abbrev hfr (h : Hf) : List CV := hrow h.st h.p h.xs.length h.cap h.g
/-- Such a half may be read. -/
structure HfAt (H : AHeap) (h : Hf) : Prop where
  few : h.xs.length ≤ 4398046511104
  rng : ∀ x ∈ h.xs, rngN x
  at_ : Nts H h.p h.xs
theorem HfAt.app {H : AHeap} {h : Hf} (q : HfAt H h) (t : List (Option Blk)) : HfAt (H ++ t) h := ⟨q.few, q.rng, q.at_.app t⟩
theorem hfr_len (h : Hf) : (hfr h).length = 18 := by
  have : (grow h.g).length = 16 := by rw [List.length_map]; exact h.g16
  simp only [hfr, hrow, List.length_cons, this]
section
variable {x y : Hf} {H : AHeap}
end
end Go.Proofs.YtcfabmmonoljeaaDoor
