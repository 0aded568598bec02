/- What functions of the program answer: part Tm. -/
import Derived.Test.YtcfabmmonoljeaaDoorPairs
import Derived.Test.YtcfabmmonoljeaaDoorViE
set_option linter.unusedVariables false
set_option linter.unusedSimpArgs false
set_option linter.unusedSectionVars false
namespace Go.Proofs.YtcfabmmonoljeaaDoor
open Go Go.Proofs.YtcfabmmonoljeaaDoor.VI
set_option maxHeartbeats 16000000
set_option maxRecDepth 20000
/-! New rows of notches -/
def NwN (H J : AHeap) (p : Option (Nat × Nat)) (xs : List Nt) : Prop := 0 < xs.length → ∃ id m, p = some (id, 0) ∧ H.length ≤ id ∧ J.get id = some ⟨91, nrows xs, m⟩ ∧ (m = .own ∨ m = .opn)
theorem NwN.nts {H J : AHeap} {p : Option (Nat × Nat)} {xs : List Nt} (h : NwN H J p xs) : Nts J p xs := fun h0 => by
  obtain ⟨id, m, h1, _, h2, _⟩ := h h0; exact ⟨id, 91, m, h1, h2⟩
theorem NwN.pre {H J K : AHeap} {p : Option (Nat × Nat)} {xs : List Nt} (h : NwN H J p xs) (k : Pre J K) : NwN H K p xs := fun h0 => by
  obtain ⟨id, m, h1, h3, h2, h4⟩ := h h0; exact ⟨id, m, h1, h3, k.get h2, h4⟩
theorem NwN.base {G H J : AHeap} {p : Option (Nat × Nat)} {xs : List Nt} (h : NwN H J p xs) (k : Pre G H) : NwN G J p xs := fun h0 => by
  obtain ⟨id, m, h1, h3, h2, h4⟩ := h h0; exact ⟨id, m, h1, Nat.le_trans k.len h3, h2, h4⟩
theorem Nts.pre {H J : AHeap} {p : Option (Nat × Nat)} {xs : List Nt} (h : Nts H p xs) (k : Pre H J) : Nts J p xs := by obtain ⟨T, rfl⟩ := k; exact h.app T
theorem HfAt.pre {H J : AHeap} {h : Hf} (q : HfAt H h) (k : Pre H J) : HfAt J h := by obtain ⟨T, rfl⟩ := k; exact q.app T
def CloneOf (H J : AHeap) (c : CV) (xs : List Nt) : Prop :=
  (xs = [] ∧ ((∃ cp, c = .slice none 0 cp) ∨ ∃ q, c = .slice (some q) 0 (.exact 0))) ∨ (0 < xs.length ∧ ∃ id, c = .slice (some (id, 0)) xs.length (.toEnd 2) ∧ H.length ≤ id ∧ J.get id = some ⟨91, nrows xs, .opn⟩)
theorem CloneOf.pre {H J K : AHeap} {c : CV} {xs : List Nt} (h : CloneOf H J c xs) (k : Pre J K) : CloneOf H K c xs := by
  rcases h with h | ⟨h1, id, h2, h3, h4⟩
  · exact .inl h
  · exact .inr ⟨h1, id, h2, h3, k.get h4⟩
theorem CloneOf.isC {H J : AHeap} {c : CV} {xs : List Nt} (h : CloneOf H J c xs) : ∃ p cap, c = .slice p xs.length cap ∧ NwN H J p xs := by
  rcases h with ⟨rfl, ⟨cp, rfl⟩ | ⟨q, rfl⟩⟩ | ⟨h1, id, rfl, h3, h4⟩
  · exact ⟨_, _, rfl, fun h => by simp at h⟩
  · exact ⟨_, _, rfl, fun h => by simp at h⟩
  · exact ⟨_, _, rfl, fun _ => ⟨id, .opn, rfl, h3, h4, .inr rfl⟩⟩
/-! An insertion -/
end Go.Proofs.YtcfabmmonoljeaaDoor
