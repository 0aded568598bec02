/- What functions of the program answer: part Marks. -/
import Derived.Test.YtcfabmmonoljeaaDoorHalvesInv
import Derived.Test.YtcfabmmonoljeaaDoorFoils
set_option linter.unusedVariables false
set_option linter.unusedSimpArgs false
set_option linter.unusedSectionVars false
namespace Go.Proofs.YtcfabmmonoljeaaDoor
open Go Go.Proofs.YtcfabmmonoljeaaDoor.VI
set_option maxHeartbeats 16000000
set_option maxRecDepth 20000
def Nums (H : AHeap) (p : Option (Nat × Nat)) (xs : List Int) : Prop := 0 < xs.length → ∃ id t m, p = some (id, 0) ∧ H.get id = some ⟨t, irow xs, m⟩
theorem Nums.app {H : AHeap} {p : Option (Nat × Nat)} {xs : List Int} (h : Nums H p xs) (t : List (Option Blk)) : Nums (H ++ t) p xs := by
  intro h0
  obtain ⟨id, e, m, h1, h2⟩ := h h0
  exact ⟨id, e, m, h1, by rw [get_appl (get_some_lt h2)]; exact h2⟩
/-! What has been laid by appends, as numbers -/
end Go.Proofs.YtcfabmmonoljeaaDoor
