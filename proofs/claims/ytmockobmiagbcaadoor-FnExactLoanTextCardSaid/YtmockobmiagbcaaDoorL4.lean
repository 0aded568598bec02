/- What functions of the program answer: part L4. -/
import Derived.Test.YtmockobmiagbcaaDoorL3
set_option linter.unusedVariables false
set_option linter.unusedSimpArgs false
set_option linter.unusedSectionVars false
namespace Go.Proofs.YtmockobmiagbcaaDoor
open Go Go.Proofs.YtmockobmiagbcaaDoor.VI
theorem loan_inv {H : AHeap} {p : List CV} (h : ArgOk H tyLoan p) : ∃ x : Ln, p = lrow x ∧ True := by
  obtain ⟨_, r, rfl, h1, h2⟩ := h.st_cons
  obtain ⟨_, r, rfl, h3, h4⟩ := h2.st_cons
  obtain ⟨_, r, rfl, h5, h6⟩ := h4.st_cons
  obtain ⟨_, r, rfl, h7, h8⟩ := h6.st_cons
  obtain rfl := h8.st_nil
  obtain ⟨_, r, rfl, h9, h10⟩ := h5.st_cons
  obtain ⟨_, r, rfl, h11, h12⟩ := h10.st_cons
  obtain rfl := h12.st_nil
  obtain ⟨A, rfl, _⟩ := h1.int_inv
  obtain ⟨d, rfl, _⟩ := h3.int_inv
  obtain ⟨n, rfl, _⟩ := h9.int_inv
  obtain ⟨D, rfl, _⟩ := h11.int_inv
  obtain ⟨v, rfl, _⟩ := h7.int_inv
  exact ⟨⟨A, d, n, D, v⟩, rfl, trivial⟩
theorem law4 (H : AHeap) (vs : List AV) (h : ArgsOk H [tyLoan] vs) : ∃ H', ev kk 4 vs H = some (.c (.bool true), H') := by
  obtain ⟨_, _, rfl, h1, h2⟩ := h.cons_inv
  obtain rfl := h2.nil_inv
  obtain ⟨ds, rfl, h7⟩ := h1.agg_inv rfl
  obtain ⟨x, rfl, _⟩ := loan_inv h7
  exact ⟨H, run4 x H⟩
end Go.Proofs.YtmockobmiagbcaaDoor
