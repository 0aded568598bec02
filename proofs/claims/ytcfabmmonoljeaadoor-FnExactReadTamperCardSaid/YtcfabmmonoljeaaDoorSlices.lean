/- What functions of the program answer: part Slices. -/
import Derived.Test.YtcfabmmonoljeaaDoorFoils
set_option linter.unusedVariables false
set_option linter.unusedSimpArgs false
set_option linter.unusedSectionVars false
namespace Go.Proofs.YtcfabmmonoljeaaDoor
open Go Go.Proofs.YtcfabmmonoljeaaDoor.VI
set_option maxHeartbeats 16000000
set_option maxRecDepth 20000
/-! Slices of halves: sizes, copies, equality -/
/-- A half that has been copied behind L. -/
def CopyOf (L : Nat) (T : List (Option Blk)) (h y : Hf) : Prop := y.st = h.st ∧ y.xs = h.xs ∧ y.g = h.g ∧ ∃ k, y.p = some (L + (k + 1), 0) ∧ T[k]? = some (ncpy h.xs)
theorem CopyOf.app {L : Nat} {T : List (Option Blk)} {h y : Hf} (q : CopyOf L T h y) (U : List (Option Blk)) : CopyOf L (T ++ U) h y := by
  obtain ⟨a, b, c, k, d, e⟩ := q
  exact ⟨a, b, c, k, d, by rw [List.getElem?_append_left (List.getElem?_eq_some_iff.1 e).1]; exact e⟩
def Copies (L : Nat) (T : List (Option Blk)) (hs ys : List Hf) (i : Nat) : Prop := ys.length = hs.length ∧ ∀ j (h1 : j < hs.length) (h2 : j < ys.length), j < i → CopyOf L T (hs[j]'h1) (ys[j]'h2)
theorem Copies.at_ {H : AHeap} {T : List (Option Blk)} {b : Option Blk} {hs ys : List Hf} (hc : Copies H.length T hs ys hs.length) (hfew : ∀ h ∈ hs, h.xs.length ≤ 1048576) (hr : ∀ h ∈ hs, ∀ z ∈ h.xs, rngN z) : ∀ y ∈ ys, HfAt (H ++ b :: T) y := by
  intro y hy
  obtain ⟨j, hj, rfl⟩ := List.getElem_of_mem hy
  have hj' : j < hs.length := by rw [← hc.1]; exact hj
  obtain ⟨a1, a2, a3, k, a4, a5⟩ := hc.2 j hj' hj hj'
  have hm := List.getElem_mem hj'
  refine ⟨by rw [a2]; have := hfew _ hm; omega, by rw [a2]; exact hr _ hm, ?_⟩
  rw [a2, a4]
  exact nts_cpyk (k := k + 1) (by rw [List.getElem?_cons_succ]; exact a5)
end Go.Proofs.YtcfabmmonoljeaaDoor
