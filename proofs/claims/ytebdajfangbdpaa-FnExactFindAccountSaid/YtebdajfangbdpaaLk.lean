/- What functions of the program answer: part Lk. -/
import Derived.Test.YtebdajfangbdpaaViRun
set_option linter.unusedVariables false
set_option linter.unusedSimpArgs false
set_option linter.unusedSectionVars false
namespace Go.Proofs.Ytebdajfangbdpaa
open Go Go.Proofs.Ytebdajfangbdpaa.VI
/-! Lists of blocks -/
theorem lkA {α : Type} {T l : List α} {k : Nat} : (T ++ l)[T.length + k]? = l[k]? := by rw [List.getElem?_append_right (by omega)]; simp
theorem stA {α : Type} {T l : List α} {k : Nat} {a : α} : (T ++ l).set (T.length + k) a = T ++ l.set k a := by rw [List.set_append, if_neg (by omega)]; simp
theorem lkA0 {α : Type} {T l : List α} : (T ++ l)[T.length]? = l[0]? := lkA (k := 0)
theorem stA0 {α : Type} {T l : List α} {a : α} : (T ++ l).set T.length a = T ++ l.set 0 a := stA (k := 0)
theorem cons2 {α : Type} {a : α} {l : List α} {n m k : Nat} : (a :: l)[n + (m + (k + 1))]? = l[n + (m + k)]? := List.getElem?_cons_succ
theorem setc2 {α : Type} {a b : α} {l : List α} {n m k : Nat} : (a :: l).set (n + (m + (k + 1))) b = a :: l.set (n + (m + k)) b := List.set_cons_succ
end Go.Proofs.Ytebdajfangbdpaa
