/- What functions of the program answer: part HalvesInv. -/
import Derived.Test.YtlidldkelkihlaaSlices
set_option linter.unusedVariables false
set_option linter.unusedSimpArgs false
set_option linter.unusedSectionVars false
namespace Go.Proofs.Ytlidldkelkihlaa
open Go Go.Proofs.Ytlidldkelkihlaa.VI
set_option maxHeartbeats 16000000
set_option maxRecDepth 20000
abbrev tyHalves : Ty := .sl 18 48 tyHalf
/-- What is known of a half that is handed in. -/
structure HfIn (H : AHeap) (h : Hf) : Prop where
  few : h.xs.length ≤ 1152921504606846976
  rng : ∀ x ∈ h.xs, rngN x
  at_ : Nts H h.p h.xs
theorem HfIn.app {H : AHeap} {h : Hf} (q : HfIn H h) (t : List (Option Blk)) : HfIn (H ++ t) h := ⟨q.few, q.rng, q.at_.app t⟩
theorem hf_inv {H : AHeap} {cs : List CV} (h : ArgOk H tyHalf cs) : ∃ x : Hf, cs = hfr x ∧ HfIn H x := by
  obtain ⟨st, p, cap, xs, g, rfl, q⟩ := half_inv h
  exact ⟨⟨st, p, cap, xs, g, q.g16⟩, rfl, q.few, q.rng, q.at_⟩
theorem hfs_inv {H : AHeap} {c : CV} {elems : List (List CV)} (h : Slc H c elems) (he : ∀ p ∈ elems, p.length = 18 ∧ ArgOk H tyHalf p) : ∃ p cap hs, c = .slice p hs.length cap ∧ Hfs H p hs ∧ elems.length = hs.length ∧ ∀ x ∈ hs, HfIn H x := by
  obtain ⟨hs, rfl, hr⟩ := elems_map (f := hfr) (ok := HfIn H) (fun p hp => hf_inv hp) (fun p hp => (he p hp).2)
  rcases h with ⟨rfl, h⟩ | ⟨id, t, rfl, h⟩
  · have : hs = [] := by simpa using h
    subst this
    exact ⟨none, .exact 0, [], rfl, fun h0 => by simp at h0, rfl, hr⟩
  · exact ⟨some (id, 0), .any, hs, by simp, fun h0 => ⟨id, t, .ro, rfl, h (by simpa using h0)⟩, by simp, hr⟩
/-! Copies behind a heap -/
theorem sameHs_all {f : Hf → Bool} (hf : ∀ x y, sameH x y → f y = f x) : ∀ {hs ys : List Hf}, SameHs hs ys → ys.all f = hs.all f
  | [], [], _ => rfl
  | [], _ :: _, h => by have := h.1; simp at this
  | _ :: _, [], h => by have := h.1; simp at this
  | h :: hs, y :: ys, e => by
    have h0 := e.2 0 (by simp) (by simp)
    have ih := sameHs_all hf (hs := hs) (ys := ys) ⟨by have := e.1; simpa using this, fun j h1 h2 => by
      have := e.2 (j + 1) (by simpa using h1) (by simpa using h2); simpa using this⟩
    simp only [List.all_cons, hf _ _ h0, ih, List.getElem_cons_zero]
    rw [hf h y h0]
theorem okF_same {x y : Hf} (h : sameH x y) : okF y = okF x := by unfold okF; rw [h.2.1, h.2.2]
theorem foil_same {x y : Hf} (h : sameH x y) : foil y = foil x := by unfold foil; rw [h.1]
theorem pcR_same {s s' : Hf} {hs ys : List Hf} (h1 : sameH s s') (h2 : SameHs hs ys) : pcR s' ys = pcR s hs := by
  unfold pcR
  rw [okF_same h1, sameHs_all (fun _ _ => okF_same) h2, sameHs_all (fun _ _ => foil_same) h2, h1.1]
end Go.Proofs.Ytlidldkelkihlaa
