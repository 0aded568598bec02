/- What functions of the program answer: part Grains. -/
import Derived.Test.YtcfabmmonoljeaaDoorLies2
import Derived.Test.YtcfabmmonoljeaaDoorViE
set_option linter.unusedVariables false
set_option linter.unusedSimpArgs false
set_option linter.unusedSectionVars false
namespace Go.Proofs.YtcfabmmonoljeaaDoor
open Go Go.Proofs.YtcfabmmonoljeaaDoor.VI
set_option maxHeartbeats 16000000
set_option maxRecDepth 20000
abbrev irow (xs : List Int) : List CV := xs.map (CV.int .i64)
/-! Worn places -/
/-! Whether grains fit -/
theorem OutS.isC {e : TypeId} {s L n : Nat} {T : List (Option Blk)} {cells : List CV} {v : AV} (h : OutS e s L T n cells v) : ∃ q cap, v = .c (.slice q n cap) := by
  rcases h with ⟨rfl, _, q, rfl⟩ | ⟨_, _, k, rfl, _⟩
  · exact ⟨_, _, rfl⟩
  · exact ⟨_, _, rfl⟩
/-! Whether halves fit -/
end Go.Proofs.YtcfabmmonoljeaaDoor
