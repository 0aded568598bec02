/- What functions of the program answer: part Pairs. -/
import Derived.Test.YtnblibimbggheaaCopies
import Derived.Test.YtnblibimbggheaaViE
set_option linter.unusedVariables false
set_option linter.unusedSimpArgs false
set_option linter.unusedSectionVars false
namespace Go.Proofs.Ytnblibimbggheaa
open Go Go.Proofs.Ytnblibimbggheaa.VI
set_option maxHeartbeats 16000000
set_option maxRecDepth 20000
/-! Whether wood is in wood -/
/-! Halves -/
structure Hf where
  st : Bool
  p : Option (Nat × Nat)
  cap : Cap
  xs : List Nt
  g : List Int
  g16 : g.length = 16
abbrev hfr (h : Hf) : List CV := hrow h.st h.p h.xs.length h.cap h.g
def okF (h : Hf) : Bool := okH h.xs h.g
/-- Such a half may be read. -/
structure HfAt (H : AHeap) (h : Hf) : Prop where
  few : h.xs.length ≤ 4398046511104
  rng : ∀ x ∈ h.xs, rngN x
  at_ : Nts H h.p h.xs
theorem HfAt.app {H : AHeap} {h : Hf} (q : HfAt H h) (t : List (Option Blk)) : HfAt (H ++ t) h := ⟨q.few, q.rng, q.at_.app t⟩
abbrev hfb (h : Hf) : Option Blk := some ⟨36, hfr h, .own⟩
theorem v70 {H : AHeap} {h : Hf} (q : HfAt H h) : ev kk 59 [.agg (hfr h)] H = some (.c (.bool (okF h)), H) := run59 h.g16 q.few q.rng q.at_
theorem v66 {H : AHeap} {h : Hf} (q : HfAt H h) {j : Nat} {e : TypeId} {m : BM} (hj : H.get j = some ⟨e, hfr h, m⟩) : ev kk 57 [.c (.ptr (some (j, 0)))] H = some (.c (.bool (okF h)), H) := run57 h.g16 q.few q.rng q.at_ hj
theorem hfr_len (h : Hf) : (hfr h).length = 18 := by
  have : (grow h.g).length = 16 := by rw [List.length_map]; exact h.g16
  simp only [hfr, hrow, List.length_cons, this]
theorem gl {h : Hf} : (grow h.g).length = 16 := by rw [List.length_map]; exact h.g16
theorem gt {h : Hf} : List.take 16 (grow h.g) = grow h.g := List.take_of_length_le (by rw [gl]; omega)
section
variable {x y : Hf} {H : AHeap}
end
end Go.Proofs.Ytnblibimbggheaa
