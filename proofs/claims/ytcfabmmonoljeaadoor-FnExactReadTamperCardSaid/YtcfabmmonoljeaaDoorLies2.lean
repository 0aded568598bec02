/- What functions of the program answer: part Lies2. -/
import Derived.Test.YtcfabmmonoljeaaDoorPairs
set_option linter.unusedVariables false
set_option linter.unusedSimpArgs false
set_option linter.unusedSectionVars false
namespace Go.Proofs.YtcfabmmonoljeaaDoor
open Go Go.Proofs.YtcfabmmonoljeaaDoor.VI
set_option maxHeartbeats 16000000
set_option maxRecDepth 20000
/-! Slices of halves -/
abbrev hrows (hs : List Hf) : List CV := (hs.map hfr).flatten
def Hfs (H : AHeap) (p : Option (Nat × Nat)) (hs : List Hf) : Prop := 0 < hs.length → ∃ id t m, p = some (id, 0) ∧ H.get id = some ⟨t, hrows hs, m⟩
theorem Hfs.app {H : AHeap} {p : Option (Nat × Nat)} {hs : List Hf} (h : Hfs H p hs) (t : List (Option Blk)) : Hfs (H ++ t) p hs := by
  intro h0
  obtain ⟨id, e, m, h1, h2⟩ := h h0
  exact ⟨id, e, m, h1, by rw [get_appl (get_some_lt h2)]; exact h2⟩
theorem hcut {hs : List Hf} {i : Nat} (hi : i < hs.length) : (((hrows hs).drop (i * 18)).take 18) = CV.bool (hs[i]'hi).st :: CV.slice (hs[i]'hi).p (hs[i]'hi).xs.length (hs[i]'hi).cap :: grow (hs[i]'hi).g := rows_cut hfr_len hi
section
variable {x y : Hf} {H : AHeap}
end
end Go.Proofs.YtcfabmmonoljeaaDoor
