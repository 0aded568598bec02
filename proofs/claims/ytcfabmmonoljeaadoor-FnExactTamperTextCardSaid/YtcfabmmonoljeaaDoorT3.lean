/- What functions of the program answer: part T3. -/
import Derived.Test.YtcfabmmonoljeaaDoorT2
set_option linter.unusedVariables false
set_option linter.unusedSimpArgs false
set_option linter.unusedSectionVars false
namespace Go.Proofs.YtcfabmmonoljeaaDoor
open Go Go.Proofs.YtcfabmmonoljeaaDoor.VI
theorem law4 (H : AHeap) (vs : List AV) (h : ArgsOk H [tyTamper] vs) : ∃ H', ev kk 4 vs H = some (.c (.bool true), H') := by
  obtain ⟨_, _, rfl, h1, h2⟩ := h.cons_inv
  obtain rfl := h2.nil_inv
  obtain ⟨ds, rfl, h7⟩ := h1.agg_inv rfl
  obtain ⟨t, rfl, ht⟩ := tamper_inv h7
  exact ⟨H, run4 H ht⟩
end Go.Proofs.YtcfabmmonoljeaaDoor
