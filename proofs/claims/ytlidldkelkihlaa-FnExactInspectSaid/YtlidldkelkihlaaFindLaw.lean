/- What functions of the program answer: part FindLaw. -/
import Derived.Test.YtlidldkelkihlaaHalvesInv
import Derived.Test.YtlidldkelkihlaaFind
set_option linter.unusedVariables false
set_option linter.unusedSimpArgs false
set_option linter.unusedSectionVars false
namespace Go.Proofs.Ytlidldkelkihlaa
open Go Go.Proofs.Ytlidldkelkihlaa.VI
set_option maxHeartbeats 16000000
set_option maxRecDepth 20000
theorem lkA {α : Type} {T l : List α} {k : Nat} : (T ++ l)[T.length + k]? = l[k]? := by rw [List.getElem?_append_right (by omega)]; simp
theorem stA {α : Type} {T l : List α} {k : Nat} {a : α} : (T ++ l).set (T.length + k) a = T ++ l.set k a := by rw [List.set_append, if_neg (by omega)]; simp
end Go.Proofs.Ytlidldkelkihlaa
