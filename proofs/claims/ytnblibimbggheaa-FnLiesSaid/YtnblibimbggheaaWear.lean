/- What functions of the program answer: part Wear. -/
import Derived.Test.YtnblibimbggheaaGrains
set_option linter.unusedVariables false
set_option linter.unusedSimpArgs false
set_option linter.unusedSectionVars false
namespace Go.Proofs.Ytnblibimbggheaa
open Go Go.Proofs.Ytnblibimbggheaa.VI
set_option maxHeartbeats 16000000
set_option maxRecDepth 20000
abbrev gb37 (g : List Int) : Option Blk := some ⟨34, grow g, .own⟩
def nxt (s : Int) : Int := IntKind.u32.wrap (IntKind.u32.wrap (1664525 * s) + 1013904223)
theorem grow_set {g : List Int} {i : Nat} {v : Int} (hi : i < g.length) : List.take i (grow g) ++ CV.int .i8 v :: List.drop (i + 1) (grow g) = grow (g.set i v) := by
  induction g generalizing i with
  | nil => simp at hi
  | cons y ys ih =>
    cases i with
    | zero => simp [grow]
    | succ i =>
      have := ih (i := i) (by simpa using hi)
      simp only [grow, List.map_cons, List.take_succ_cons, List.drop_succ_cons, List.cons_append, List.set_cons_succ] at this ⊢
      rw [this]
abbrev zg : List CV := [.int .i8 0, .int .i8 0, .int .i8 0, .int .i8 0, .int .i8 0, .int .i8 0, .int .i8 0, .int .i8 0, .int .i8 0, .int .i8 0, .int .i8 0, .int .i8 0, .int .i8 0, .int .i8 0, .int .i8 0, .int .i8 0]
theorem grow_plain {g : List Int} : (grow g).all CV.plain = true := by
  induction g with
  | nil => rfl
  | cons x xs ih => simp only [grow, List.map_cons, List.all_cons, pl_int, Bool.true_and] at ih ⊢; exact ih
end Go.Proofs.Ytnblibimbggheaa
