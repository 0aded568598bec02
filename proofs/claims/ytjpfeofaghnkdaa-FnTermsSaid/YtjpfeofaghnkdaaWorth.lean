/- What functions of the program answer: part Worth. -/
import Derived.Test.YtjpfeofaghnkdaaGrow
set_option linter.unusedVariables false
set_option linter.unusedSimpArgs false
set_option linter.unusedSectionVars false
namespace Go.Proofs.Ytjpfeofaghnkdaa
open Go Go.Proofs.Ytjpfeofaghnkdaa.VI
set_option maxHeartbeats 8000000
theorem itr_mono {x y n d D : Int} (h : okR n D) (hd : 0 ≤ d) (hxy : x ≤ y) : itr x n d D ≤ itr y n d D := by
  obtain ⟨⟨D0, D1⟩, n0, n1⟩ := h
  unfold itr
  apply Int.ediv_le_ediv (by omega)
  exact Int.mul_le_mul_of_nonneg_right (Int.mul_le_mul_of_nonneg_right hxy n0) hd
theorem half {x : Int} (h : 0 ≤ x) : vshr .u64 x 1 = x / 2 := by
  unfold vshr
  have e : (2 : Int) ^ (Nat.min (Int.toNat 1) IntKind.u64.bits) = 2 := by decide
  rw [e, Int.fdiv_eq_ediv_of_nonneg _ (by omega)]
section
variable (a n D d : Int) (H : AHeap)
variable (v : Int)
theorem told_s (x : Int) : ∃ p q, told x = .tup [.c (.int .i64 p), .c (.int .i64 q)] := by unfold told; split; exact ⟨_, _, rfl⟩; exact ⟨_, _, rfl⟩
end
end Go.Proofs.Ytjpfeofaghnkdaa
