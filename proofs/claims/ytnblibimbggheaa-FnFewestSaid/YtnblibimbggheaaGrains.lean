/- What functions of the program answer: part Grains. -/
import Derived.Test.YtnblibimbggheaaLies2
import Derived.Test.YtnblibimbggheaaViE
set_option linter.unusedVariables false
set_option linter.unusedSimpArgs false
set_option linter.unusedSectionVars false
namespace Go.Proofs.Ytnblibimbggheaa
open Go Go.Proofs.Ytnblibimbggheaa.VI
set_option maxHeartbeats 16000000
set_option maxRecDepth 20000
abbrev irow (xs : List Int) : List CV := xs.map (CV.int .i64)
/-! Worn places -/
def wq (g f : List Int) (i : Nat) : Bool := IntKind.i8.wrap (g.getD i 0 + f.getD i 0) != 0
def wr (g f : List Int) (i n : Nat) : List Int := ((List.range' i n).filter (wq g f)).map fun j : Nat => (j : Int)
theorem OutS.more {e : TypeId} {s L n : Nat} {T U : List (Option Blk)} {cells : List CV} {v : AV} (h : OutS e s L T n cells v) : OutS e s L (T ++ U) n cells v := by
  rcases h with h | ⟨h1, h2, k, h3, h4⟩
  · exact .inl h
  · exact .inr ⟨h1, h2, k, h3, by rw [List.getElem?_append_left (List.getElem?_eq_some_iff.1 h4).1]; exact h4⟩
abbrev gb (e : TypeId) (g : List Int) : Option Blk := some ⟨e, grow g, .own⟩
abbrev ws (g f : List Int) : List Int := wr g f 0 16
/-! Whether grains fit -/
theorem OutS.isC {e : TypeId} {s L n : Nat} {T : List (Option Blk)} {cells : List CV} {v : AV} (h : OutS e s L T n cells v) : ∃ q cap, v = .c (.slice q n cap) := by
  rcases h with ⟨rfl, _, q, rfl⟩ | ⟨_, _, k, rfl, _⟩
  · exact ⟨_, _, rfl⟩
  · exact ⟨_, _, rfl⟩
/-! Whether halves fit -/
end Go.Proofs.Ytnblibimbggheaa
