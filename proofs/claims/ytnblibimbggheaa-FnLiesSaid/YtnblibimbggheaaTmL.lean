/- What functions of the program answer: part TmL. -/
import Derived.Test.YtnblibimbggheaaTam4
set_option linter.unusedVariables false
set_option linter.unusedSimpArgs false
set_option linter.unusedSectionVars false
namespace Go.Proofs.Ytnblibimbggheaa
open Go Go.Proofs.Ytnblibimbggheaa.VI
set_option maxHeartbeats 16000000
set_option maxRecDepth 20000
/-! Slices of tampers, as values -/
def TsAt (K : AHeap) (c : CV) (ts : List Tm) : Prop := ∃ p cap, c = .slice p ts.length cap ∧ Tts K p ts
def TsNw (G J : AHeap) (c : CV) (ts : List Tm) : Prop := ∃ p cap, c = .slice p ts.length cap ∧ (0 < ts.length → ∃ id m, p = some (id, 0) ∧ G.length ≤ id ∧ J.get id = some ⟨38, trows ts, m⟩ ∧ (m = .own ∨ m = .opn))
def TsMk (K : AHeap) (c : CV) (n : Nat) (k : Int) : Prop := ∃ p cap, c = .slice p n cap ∧ (0 < n → ∃ id m, p = some (id, 0) ∧ K.get id = some ⟨38, trows (mkT k n), m⟩)
section
variable {G H J K : AHeap} {c c' : CV} {ts : List Tm} {n : Nat} {k : Int}
theorem TsNw.at_ (h : TsNw G J c ts) : TsAt J c ts := by
  obtain ⟨p, cap, h1, h2⟩ := h
  exact ⟨p, cap, h1, fun h0 => by obtain ⟨id, m, h3, _, h4, _⟩ := h2 h0; exact ⟨id, 38, m, h3, h4⟩⟩
theorem TsAt.pre (h : TsAt J c ts) (q : Pre J K) : TsAt K c ts := by
  obtain ⟨p, cap, h1, h2⟩ := h
  exact ⟨p, cap, h1, h2.pre q⟩
theorem TsMk.pre (h : TsMk J c n k) (q : Pre J K) : TsMk K c n k := by
  obtain ⟨p, cap, h1, h2⟩ := h
  exact ⟨p, cap, h1, fun h0 => by obtain ⟨id, m, h3, h4⟩ := h2 h0; exact ⟨id, m, h3, q.get h4⟩⟩
theorem TsNw.of (h : ApS 38 4 G J ts.length (trows ts) (.c c)) : TsNw G J c ts := by
  rcases h with ⟨h1, h2, q, h3⟩ | ⟨h1, h2, id, h3, h4, h5⟩
  · injection h3 with h3
    exact ⟨q, .exact 0, by rw [h3, h1], fun h => by omega⟩
  · injection h3 with h3
    exact ⟨_, _, h3, fun _ => ⟨id, .opn, rfl, h4, h5, .inr rfl⟩⟩
theorem TsNw.nil {p : Option (Nat × Nat)} {cap : Cap} : TsNw G J (.slice p 0 cap) [] := ⟨p, cap, rfl, fun h => by simp at h⟩
theorem TsNw.base (h : TsNw H J c ts) (q : Pre G H) : TsNw G J c ts := by
  obtain ⟨p, cap, h1, h2⟩ := h
  exact ⟨p, cap, h1, fun h0 => by obtain ⟨id, m, h3, h4, h5⟩ := h2 h0; exact ⟨id, m, h3, Nat.le_trans q.len h4, h5⟩⟩
theorem TsNw.turn (h : TsNw G J c ts) (q : ∀ i b, J.get i = some b → G.length ≤ i → K.get i = some b) : TsNw G K c ts := by
  obtain ⟨p, cap, h1, h2⟩ := h
  exact ⟨p, cap, h1, fun h0 => by obtain ⟨id, m, h3, h4, h5, h6⟩ := h2 h0; exact ⟨id, m, h3, h4, q id _ h5 h4, h6⟩⟩
theorem TsNw.pre (h : TsNw G J c ts) (q : Pre J K) : TsNw G K c ts := h.turn fun i b hi _ => q.get hi
end
/-! The ways, with a code -/
theorem ways_few {p : Pr} (h : p.xs.length ≤ 60) : (waysP p).length ≤ 366 := by
  have h1 := wiF_len (p := p) (n := p.xs.length) (i := 0)
  have h2 := adF_len (p := p) (n := 6) (k := 0)
  unfold waysP; rw [List.length_append]; omega
end Go.Proofs.Ytnblibimbggheaa
