/- What functions of the program answer: parts Slices HalvesInv. -/
import Derived.Test.YtnblibimbggheaaFoils
/- What functions of the program answer: part Slices. -/
set_option linter.unusedVariables false
set_option linter.unusedSimpArgs false
set_option linter.unusedSectionVars false
namespace Go.Proofs.Ytnblibimbggheaa
open Go Go.Proofs.Ytnblibimbggheaa.VI
set_option maxHeartbeats 16000000
set_option maxRecDepth 20000
/-! Slices of halves: sizes, copies, equality -/
/-- A half that has been copied behind L. -/
def CopyOf (L : Nat) (T : List (Option Blk)) (h y : Hf) : Prop := y.st = h.st ∧ y.xs = h.xs ∧ y.g = h.g ∧ ∃ k, y.p = some (L + (k + 1), 0) ∧ T[k]? = some (ncpy h.xs)
theorem CopyOf.app {L : Nat} {T : List (Option Blk)} {h y : Hf} (q : CopyOf L T h y) (U : List (Option Blk)) : CopyOf L (T ++ U) h y := by
  obtain ⟨a, b, c, k, d, e⟩ := q
  exact ⟨a, b, c, k, d, by rw [List.getElem?_append_left (List.getElem?_eq_some_iff.1 e).1]; exact e⟩
def Copies (L : Nat) (T : List (Option Blk)) (hs ys : List Hf) (i : Nat) : Prop := ys.length = hs.length ∧ ∀ j (h1 : j < hs.length) (h2 : j < ys.length), j < i → CopyOf L T (hs[j]'h1) (ys[j]'h2)
theorem hset {ys : List Hf} {i : Nat} {y : Hf} (hi : i < ys.length) : List.take (i * 18) (hrows ys) ++ CV.bool y.st :: CV.slice y.p y.xs.length y.cap :: (grow y.g ++ List.drop (i * 18 + 18) (hrows ys)) = hrows (ys.set i y) := rows_upd hfr_len hi
theorem Copies.at_ {H : AHeap} {T : List (Option Blk)} {b : Option Blk} {hs ys : List Hf} (hc : Copies H.length T hs ys hs.length) (hfew : ∀ h ∈ hs, h.xs.length ≤ 1048576) (hr : ∀ h ∈ hs, ∀ z ∈ h.xs, rngN z) : ∀ y ∈ ys, HfAt (H ++ b :: T) y := by
  intro y hy
  obtain ⟨j, hj, rfl⟩ := List.getElem_of_mem hy
  have hj' : j < hs.length := by rw [← hc.1]; exact hj
  obtain ⟨a1, a2, a3, k, a4, a5⟩ := hc.2 j hj' hj hj'
  have hm := List.getElem_mem hj'
  refine ⟨by rw [a2]; have := hfew _ hm; omega, by rw [a2]; exact hr _ hm, ?_⟩
  rw [a2, a4]
  exact nts_cpyk (k := k + 1) (by rw [List.getElem?_cons_succ]; exact a5)
/-- Halves of the same contents. -/
def sameH (h y : Hf) : Prop := y.st = h.st ∧ y.xs = h.xs ∧ y.g = h.g
def SameHs (hs ys : List Hf) : Prop := ys.length = hs.length ∧ ∀ j (h1 : j < hs.length) (h2 : j < ys.length), sameH (hs[j]'h1) (ys[j]'h2)
theorem Copies.same {L : Nat} {T : List (Option Blk)} {hs ys : List Hf} (hc : Copies L T hs ys hs.length) : SameHs hs ys :=
  ⟨hc.1, fun j h1 h2 => by obtain ⟨a1, a2, a3, _⟩ := hc.2 j h1 h2 h1; exact ⟨a1, a2, a3⟩⟩
end Go.Proofs.Ytnblibimbggheaa

/- What functions of the program answer: part HalvesInv. -/
set_option linter.unusedVariables false
set_option linter.unusedSimpArgs false
set_option linter.unusedSectionVars false
namespace Go.Proofs.Ytnblibimbggheaa
open Go Go.Proofs.Ytnblibimbggheaa.VI
set_option maxHeartbeats 16000000
set_option maxRecDepth 20000
/-- What is known of a half that is handed in. -/
structure HfIn (H : AHeap) (h : Hf) : Prop where
  few : h.xs.length ≤ 1152921504606846976
  rng : ∀ x ∈ h.xs, rngN x
  at_ : Nts H h.p h.xs
theorem HfIn.app {H : AHeap} {h : Hf} (q : HfIn H h) (t : List (Option Blk)) : HfIn (H ++ t) h := ⟨q.few, q.rng, q.at_.app t⟩
theorem HfIn.at {H : AHeap} {h : Hf} (q : HfIn H h) (hl : h.xs.length ≤ 4398046511104) : HfAt H h := ⟨hl, q.rng, q.at_⟩
/-! Copies behind a heap -/
end Go.Proofs.Ytnblibimbggheaa
