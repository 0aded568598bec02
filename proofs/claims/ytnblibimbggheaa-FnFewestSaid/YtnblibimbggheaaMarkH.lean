/- What functions of the program answer: part MarkH. -/
import Derived.Test.YtnblibimbggheaaLawG
set_option linter.unusedVariables false
set_option linter.unusedSimpArgs false
set_option linter.unusedSectionVars false
namespace Go.Proofs.Ytnblibimbggheaa
open Go Go.Proofs.Ytnblibimbggheaa.VI
set_option maxHeartbeats 16000000
set_option maxRecDepth 20000
/-! Marks in notches -/
def mkN1 (k : Int) : Nt := ⟨IntKind.i8.wrap k, IntKind.i16.wrap (k + 1)⟩
def mkN (k : Int) (n : Nat) : List Nt := (List.range n).map fun i : Nat => mkN1 (k + 2 * (i : Int))
/-! .. of halves -/
def MkAt (K : AHeap) (y : Hf) (k : Int) : Prop := 0 < y.xs.length → ∃ id m, y.p = some (id, 0) ∧ K.get id = some ⟨119, nrows (mkN k y.xs.length), m⟩
theorem MkAt.pre {J K : AHeap} {y : Hf} {k : Int} (h : MkAt J y k) (q : Pre J K) : MkAt K y k := fun h0 => by
  obtain ⟨id, m, h1, h2⟩ := h h0; exact ⟨id, m, h1, q.get h2⟩
end Go.Proofs.Ytnblibimbggheaa
