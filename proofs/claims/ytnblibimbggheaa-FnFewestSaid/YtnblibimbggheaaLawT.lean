/- What functions of the program answer: part LawT. -/
import Derived.Test.YtnblibimbggheaaMarkH
set_option linter.unusedVariables false
set_option linter.unusedSimpArgs false
set_option linter.unusedSectionVars false
namespace Go.Proofs.Ytnblibimbggheaa
open Go Go.Proofs.Ytnblibimbggheaa.VI
set_option maxHeartbeats 16000000
set_option maxRecDepth 20000
/-- What may be read still may be, where only the marked row has turned. -/
theorem HfAt.keep {J K : AHeap} {y : Hf} {p : Option (Nat × Nat)} {n : Nat} (h : HfAt J y) (k : ∀ i b, J.get i = some b → (∀ o, 0 < n → p ≠ some (i, o)) → K.get i = some b) (hne : ∀ i o o', 0 < y.xs.length → 0 < n → y.p = some (i, o) → p ≠ some (i, o')) : HfAt K y :=
  ⟨h.few, h.rng, fun h0 => by
    obtain ⟨id, t, m, h1, h2⟩ := h.at_ h0
    exact ⟨id, t, m, h1, k id _ h2 (fun o hn => hne id 0 o h0 hn h1)⟩⟩
end Go.Proofs.Ytnblibimbggheaa
