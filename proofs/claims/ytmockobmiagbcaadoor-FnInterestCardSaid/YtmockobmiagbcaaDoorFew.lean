/- What functions of the program answer: part Few. -/
import Derived.Test.YtmockobmiagbcaaDoorDraw
set_option linter.unusedVariables false
set_option linter.unusedSimpArgs false
set_option linter.unusedSectionVars false
namespace Go.Proofs.YtmockobmiagbcaaDoor
open Go Go.Proofs.YtmockobmiagbcaaDoor.VI
set_option maxHeartbeats 16000000
set_option maxRecDepth 20000
theorem itr_le {a n D d : Int} (h : okR n D) (hd : 0 ≤ d) (ha : 0 ≤ a) : itr a n d D ≤ a * d / 365 := by
  obtain ⟨⟨D0, D1⟩, n0, n1⟩ := h
  unfold itr
  have h1 : a * n * d ≤ D * (a * d) := by
    have e : a * n * d = n * (a * d) := by rw [Int.mul_comm a n, Int.mul_assoc]
    rw [e]
    exact Int.mul_le_mul_of_nonneg_right n1 (Int.mul_nonneg ha hd)
  have h2 : a * n * d / (D * 365) ≤ D * (a * d) / (D * 365) := Int.ediv_le_ediv (by omega) h1
  rw [Int.mul_ediv_mul_of_pos _ _ (by omega)] at h2
  exact h2
theorem itr_few {a n D d : Int} (h : okR n D) (hd : 0 ≤ d ∧ d ≤ 3000) (ha : 0 ≤ a ∧ a ≤ 60000) : itr a n d D ≤ 500000 := by
  have h1 := itr_le h hd.1 ha.1
  have h2 : a * d ≤ 60000 * 3000 := Int.mul_le_mul ha.2 hd.2 hd.1 (by omega)
  have h3 : a * d / 365 ≤ 180000000 / 365 := Int.ediv_le_ediv (by omega) (by omega)
  omega
theorem told_few {x : Int} (h : x ≤ 100000000) : told x = .tup [.c (.int .i64 x), .c (.int .i64 0)] := by unfold told; rw [if_neg (by omega)]
end Go.Proofs.YtmockobmiagbcaaDoor
