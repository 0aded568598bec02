/- What functions of the program answer: part FindLaw. -/
import Derived.Test.YtlidldkelkihlaaHalvesInv
import Derived.Test.YtlidldkelkihlaaFind
set_option linter.unusedVariables false
set_option linter.unusedSimpArgs false
set_option linter.unusedSectionVars false
namespace Go.Proofs.Ytlidldkelkihlaa
open Go Go.Proofs.Ytlidldkelkihlaa.VI
set_option maxHeartbeats 16000000
set_option maxRecDepth 20000
theorem lkA {α : Type} {T l : List α} {k : Nat} : (T ++ l)[T.length + k]? = l[k]? := by rw [List.getElem?_append_right (by omega)]; simp
theorem stA {α : Type} {T l : List α} {k : Nat} {a : α} : (T ++ l).set (T.length + k) a = T ++ l.set k a := by rw [List.set_append, if_neg (by omega)]; simp
theorem lkB {α : Type} {T l : List α} {k n : Nat} : (T ++ l)[T.length + n + k]? = l[n + k]? := by rw [Nat.add_assoc]; exact lkA
theorem SameHs.of {hs ys zs : List Hf} (h : SameHs hs ys) (h' : SameHs hs zs) : SameHs ys zs := by
  refine ⟨by rw [h'.1, h.1], fun j h1 h2 => ?_⟩
  have h0 : j < hs.length := by rw [← h.1]; exact h1
  obtain ⟨a1, a2, a3⟩ := h.2 j h0 h1
  obtain ⟨b1, b2, b3⟩ := h'.2 j h0 h2
  exact ⟨by rw [b1, a1], by rw [b2, a2], by rw [b3, a3]⟩
end Go.Proofs.Ytlidldkelkihlaa
