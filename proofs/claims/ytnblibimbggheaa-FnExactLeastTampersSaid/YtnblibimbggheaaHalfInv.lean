/- What functions of the program answer: part HalfInv. -/
import Derived.Test.YtnblibimbggheaaCopies
import Derived.Test.YtnblibimbggheaaViE
set_option linter.unusedVariables false
set_option linter.unusedSimpArgs false
set_option linter.unusedSectionVars false
namespace Go.Proofs.Ytnblibimbggheaa
open Go Go.Proofs.Ytnblibimbggheaa.VI
set_option maxHeartbeats 4000000
abbrev tyNotch : Ty := .st [.int .i8, .int .i16]
abbrev tyHalf : Ty := .st [.bool, .sl 2 4 tyNotch, .ar 16 1 (.int .i8)]
theorem notch_inv {H : AHeap} {p : List CV} (h : ArgOk H tyNotch p) : ∃ x : Nt, p = nrow x ∧ rngN x := by
  obtain ⟨_, r, rfl, h1, h2⟩ := h.st_cons
  obtain ⟨_, r, rfl, h3, h4⟩ := h2.st_cons
  obtain rfl := h4.st_nil
  obtain ⟨k, rfl, hk⟩ := h1.int_inv
  obtain ⟨a, rfl, ha⟩ := h3.int_inv
  refine ⟨⟨k, a⟩, rfl, ?_, ?_⟩
  · simp [Lit.wf, IntKind.min, IntKind.max, IntKind.bits, IntKind.signed] at hk
    dsimp only; omega
  · simp [Lit.wf, IntKind.min, IntKind.max, IntKind.bits, IntKind.signed] at ha
    dsimp only; omega
theorem nts_inv {H : AHeap} {c : CV} {elems : List (List CV)} (h : Slc H c elems) (he : ∀ p ∈ elems, p.length = 2 ∧ ArgOk H tyNotch p) : ∃ p cap xs, c = .slice p xs.length cap ∧ Nts H p xs ∧ elems.length = xs.length ∧ ∀ x ∈ xs, rngN x := by
  obtain ⟨xs, rfl, hr⟩ := elems_map (f := nrow) (ok := rngN) (fun p hp => notch_inv hp) (fun p hp => (he p hp).2)
  rcases h with ⟨rfl, h⟩ | ⟨id, t, rfl, h⟩
  · have : xs = [] := by simpa using h
    subst this
    exact ⟨none, .exact 0, [], rfl, fun h0 => by simp at h0, rfl, hr⟩
  · exact ⟨some (id, 0), .any, xs, by simp, fun h0 => ⟨id, t, .ro, rfl, h (by simpa using h0)⟩, by simp, hr⟩
theorem grain_inv {H : AHeap} {cs : List CV} (h : ArgOk H (.ar 16 1 (.int .i8)) cs) : ∃ g : List Int, g.length = 16 ∧ cs = grow g := by
  obtain ⟨parts, rfl, h1, h2, h3⟩ := h.ar_inv
  obtain ⟨xs, rfl, _⟩ := elems_map (f := fun x => [CV.int .i8 x]) (ok := fun _ => True) (fun p hp => by obtain ⟨n, rfl, _⟩ := hp.int_inv; exact ⟨n, rfl, trivial⟩) h3
  have hf : ∀ ys : List Int, (ys.map fun x => [CV.int .i8 x]).flatten = grow ys := by
    intro ys
    induction ys with
    | nil => rfl
    | cons x ys ih => simp only [List.map_cons, List.flatten_cons, ih, List.cons_append, List.nil_append]
  exact ⟨xs, by simpa using h1, hf xs⟩
/-- What is known of a half that is handed in. -/
structure HalfAt (H : AHeap) (st : Bool) (p : Option (Nat × Nat)) (cap : Cap) (xs : List Nt) (g : List Int) : Prop where
  g16 : g.length = 16
  few : xs.length ≤ 1152921504606846976
  rng : ∀ x ∈ xs, rngN x
  at_ : Nts H p xs
theorem half_inv {H : AHeap} {cs : List CV} (h : ArgOk H tyHalf cs) : ∃ st p cap xs g, cs = hrow st p xs.length cap g ∧ HalfAt H st p cap xs g := by
  obtain ⟨_, r, rfl, h1, h2⟩ := h.st_cons
  obtain ⟨_, r, rfl, h3, h4⟩ := h2.st_cons
  obtain ⟨_, r, rfl, h5, h6⟩ := h4.st_cons
  obtain rfl := h6.st_nil
  obtain ⟨st, rfl⟩ := h1.bool_inv
  obtain ⟨c, elems, rfl, q1, q2, q3⟩ := h3.sl_inv
  obtain ⟨p, cap, xs, rfl, q4, q5, q6⟩ := nts_inv q1 q2
  obtain ⟨g, hg, rfl⟩ := grain_inv h5
  exact ⟨st, p, cap, xs, g, by simp [hrow], hg, by omega, q6, q4⟩
end Go.Proofs.Ytnblibimbggheaa
