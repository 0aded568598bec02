/- What functions of the program answer: parts Tam4 TmS LawT. -/
import Derived.Test.YtnblibimbggheaaTam2
import Derived.Test.YtnblibimbggheaaWays3
import Derived.Test.YtnblibimbggheaaLawG
/- What functions of the program answer: part Tam4. -/
set_option linter.unusedVariables false
set_option linter.unusedSimpArgs false
set_option linter.unusedSectionVars false
namespace Go.Proofs.Ytnblibimbggheaa
open Go Go.Proofs.Ytnblibimbggheaa.VI
set_option maxHeartbeats 16000000
set_option maxRecDepth 20000
/-- A half in some block. -/
def HfO (H : AHeap) (b off : Nat) (h : Hf) : Prop := ∃ bl : Blk, H.get b = some bl ∧ bl.cells[off]? = some (.bool h.st) ∧ bl.cells[off + 1]? = some (.slice h.p h.xs.length h.cap) ∧ (bl.cells.drop (off + 2)).take 16 = grow h.g ∧ off + 2 + 16 ≤ bl.cells.length ∧ off + 18 ≤ bl.cells.length ∧ (bl.cells.drop off).take 18 = hfr h
theorem HfO.pre {H J : AHeap} {b off : Nat} {h : Hf} (q : HfO H b off h) (k : Pre H J) : HfO J b off h := by
  obtain ⟨bl, h1, h2⟩ := q; exact ⟨bl, k.get h1, h2⟩
theorem HfO.app {H : AHeap} {b off : Nat} {h : Hf} (q : HfO H b off h) (T : List (Option Blk)) : HfO (H ++ T) b off h := q.pre pre_app
end Go.Proofs.Ytnblibimbggheaa

/- What functions of the program answer: part TmS. -/
set_option linter.unusedVariables false
set_option linter.unusedSimpArgs false
set_option linter.unusedSectionVars false
namespace Go.Proofs.Ytnblibimbggheaa
open Go Go.Proofs.Ytnblibimbggheaa.VI
set_option maxHeartbeats 16000000
set_option maxRecDepth 20000
/-! Slices of tampers -/
def Tts (H : AHeap) (p : Option (Nat × Nat)) (ts : List Tm) : Prop := 0 < ts.length → ∃ id t m, p = some (id, 0) ∧ H.get id = some ⟨t, trows ts, m⟩
theorem Tts.pre {H J : AHeap} {p : Option (Nat × Nat)} {ts : List Tm} (h : Tts H p ts) (k : Pre H J) : Tts J p ts := fun h0 => by
  obtain ⟨id, t, m, h1, h2⟩ := h h0; exact ⟨id, t, m, h1, k.get h2⟩
theorem trc {ts : List Tm} {i : Nat} (hi : i < ts.length) : (((trows ts).drop (i * 4)).take 4) = trow (ts[i]'hi) := rows_cut trow_len hi
/-! Marks in them -/
def mkT1 (k : Int) : Tm := ⟨IntKind.i8.wrap k, IntKind.i8.wrap (k + 1), IntKind.i16.wrap (k + 1 + 1), IntKind.i16.wrap (k + 1 + 1 + 1)⟩
def mkT (k : Int) (n : Nat) : List Tm := (List.range n).map fun i : Nat => mkT1 (k + 4 * (i : Int))
section
variable {ts : List Tm} {i : Nat} (hi : i < ts.length)
include hi
end
end Go.Proofs.Ytnblibimbggheaa

/- What functions of the program answer: part LawT. -/
set_option linter.unusedVariables false
set_option linter.unusedSimpArgs false
set_option linter.unusedSectionVars false
namespace Go.Proofs.Ytnblibimbggheaa
open Go Go.Proofs.Ytnblibimbggheaa.VI
set_option maxHeartbeats 16000000
set_option maxRecDepth 20000
/-- What may be read still may be, where only the marked row has turned. -/
theorem HfAt.keep {J K : AHeap} {y : Hf} {p : Option (Nat × Nat)} {n : Nat} (h : HfAt J y) (k : ∀ i b, J.get i = some b → (∀ o, 0 < n → p ≠ some (i, o)) → K.get i = some b) (hne : ∀ i o o', 0 < y.xs.length → 0 < n → y.p = some (i, o) → p ≠ some (i, o')) : HfAt K y :=
  ⟨h.few, h.rng, fun h0 => by
    obtain ⟨id, t, m, h1, h2⟩ := h.at_ h0
    exact ⟨id, t, m, h1, k id _ h2 (fun o hn => hne id 0 o h0 hn h1)⟩⟩
end Go.Proofs.Ytnblibimbggheaa
