/- What functions of the program answer: part TmS. -/
import Derived.Test.YtnblibimbggheaaWays3
set_option linter.unusedVariables false
set_option linter.unusedSimpArgs false
set_option linter.unusedSectionVars false
namespace Go.Proofs.Ytnblibimbggheaa
open Go Go.Proofs.Ytnblibimbggheaa.VI
set_option maxHeartbeats 16000000
set_option maxRecDepth 20000
/-! Slices of tampers -/
def Tts (H : AHeap) (p : Option (Nat × Nat)) (ts : List Tm) : Prop := 0 < ts.length → ∃ id t m, p = some (id, 0) ∧ H.get id = some ⟨t, trows ts, m⟩
theorem Tts.pre {H J : AHeap} {p : Option (Nat × Nat)} {ts : List Tm} (h : Tts H p ts) (k : Pre H J) : Tts J p ts := fun h0 => by
  obtain ⟨id, t, m, h1, h2⟩ := h h0; exact ⟨id, t, m, h1, k.get h2⟩
theorem trc {ts : List Tm} {i : Nat} (hi : i < ts.length) : (((trows ts).drop (i * 4)).take 4) = trow (ts[i]'hi) := rows_cut trow_len hi
/-! Marks in them -/
def mkT1 (k : Int) : Tm := ⟨IntKind.i8.wrap k, IntKind.i8.wrap (k + 1), IntKind.i16.wrap (k + 1 + 1), IntKind.i16.wrap (k + 1 + 1 + 1)⟩
def mkT (k : Int) (n : Nat) : List Tm := (List.range n).map fun i : Nat => mkT1 (k + 4 * (i : Int))
section
variable {ts : List Tm} {i : Nat} (hi : i < ts.length)
include hi
end
end Go.Proofs.Ytnblibimbggheaa
