/- What functions of the program answer: part Inspect. -/
import Derived.Test.YtcfabmmonoljeaaDoorLies
import Derived.Test.YtcfabmmonoljeaaDoorSums
set_option linter.unusedVariables false
set_option linter.unusedSimpArgs false
set_option linter.unusedSectionVars false
namespace Go.Proofs.YtcfabmmonoljeaaDoor
open Go Go.Proofs.YtcfabmmonoljeaaDoor.VI
set_option maxHeartbeats 16000000
set_option maxRecDepth 20000
/-! Marks on notches -/
theorem nset1 {xs : List Nt} {i : Nat} {v : Int} (hi : i < xs.length) : List.take (i * 2) (nrows xs) ++ CV.int .i8 v :: List.drop (i * 2 + 1) (nrows xs) = nrows (xs.set i ⟨v, (xs[i]'hi).a⟩) := by
  induction xs generalizing i with
  | nil => simp at hi
  | cons y ys ih =>
    cases i with
    | zero => simp [nrows]
    | succ i =>
      have := ih (i := i) (by simpa using hi)
      have e : (i + 1) * 2 = i * 2 + 1 + 1 := by omega
      simp only [nrows, nrow, List.map_cons, List.flatten_cons, List.cons_append, List.nil_append, e, List.take_succ_cons, List.drop_succ_cons, List.set_cons_succ, List.getElem_cons_succ] at this ⊢
      rw [this]
/-! Verdicts -/
section
variable {f : Bool} {l a o : Int} {K K' T T' U U' J : List (Option Blk)} {xs : List Int} {c c' : CV}
end
end Go.Proofs.YtcfabmmonoljeaaDoor
