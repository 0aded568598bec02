/- What functions of the program answer: part Least3. -/
import Derived.Test.YtnblibimbggheaaLeast2
set_option linter.unusedVariables false
set_option linter.unusedSimpArgs false
set_option linter.unusedSectionVars false
namespace Go.Proofs.Ytnblibimbggheaa
open Go Go.Proofs.Ytnblibimbggheaa.VI
set_option maxHeartbeats 16000000
set_option maxRecDepth 20000
theorem HsOk.lies {p : Pr} {G J : AHeap} {ys : List Hf} {ts : List Tm} {v : AV} (h : HsOk p G J ys ts v) (h0 : 0 < ys.length) : ∃ id, v = .c (.slice (some (id, 0)) ys.length (.toEnd 18)) ∧ J.get id = some ⟨36, hrows ys, .opn⟩ ∧ ∀ i (hi : i < ys.length), HfO J id (i * 18) (ys[i]'hi) := by
  rcases h.2.2 with ⟨h1, _⟩ | ⟨_, h2, id, h3, _, h5⟩
  · omega
  · refine ⟨id, h3, h5, fun i hi => ⟨_, h5, hr0 hi, hr1 hi, hr2 hi, ?_, ?_, rows_cut hfr_len hi⟩⟩
    · dsimp only; rw [h2]; omega
    · dsimp only; rw [h2]; omega
theorem HsOk.len {p : Pr} {G J : AHeap} {ys : List Hf} {ts : List Tm} {v : AV} (h : HsOk p G J ys ts v) : ys.length = ts.length := by
  have := congrArg List.length h.1; simpa using this
theorem HsOk.pr {p : Pr} {G J : AHeap} {ys : List Hf} {ts : List Tm} {v : AV} (h : HsOk p G J ys ts v) {i : Nat} (hi : i < ys.length) (hi' : i < ts.length) : (ys[i]'hi).pr = (tmR p (ts[i]'hi')).1 := by
  have h1 : (ys.map Hf.pr)[i]'(by simpa using hi) = (ts.map (fun t => (tmR p t).1))[i]'(by simpa using hi') := by simp only [h.1]
  simpa using h1
end Go.Proofs.Ytnblibimbggheaa
