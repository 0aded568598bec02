/- What functions of the program answer: part Lists. -/
import Derived.Test.YtebdajfangbdpaaItems
set_option linter.unusedVariables false
set_option linter.unusedSimpArgs false
set_option linter.unusedSectionVars false
namespace Go.Proofs.Ytebdajfangbdpaa
open Go Go.Proofs.Ytebdajfangbdpaa.VI
set_option maxHeartbeats 4000000
/-- What a list of items is read as. -/
abbrev tyItem : Ty := .st [.int .i8, .int .i64]
theorem item_inv {H : AHeap} {p : List CV} (h : ArgOk H tyItem p) : ∃ x : Int × Int, p = itc x ∧ -128 ≤ x.1 ∧ x.1 ≤ 127 := by
  obtain ⟨a, r, rfl, h1, h2⟩ := h.st_cons
  obtain ⟨b, r, rfl, h3, h4⟩ := h2.st_cons
  obtain rfl := h4.st_nil
  obtain ⟨n, rfl, hn⟩ := h1.int_inv
  obtain ⟨m, rfl, hm⟩ := h3.int_inv
  refine ⟨(n, m), rfl, ?_⟩
  have : Lit.wf (.int .i8 n) = true := hn
  simp [Lit.wf, IntKind.min, IntKind.max, IntKind.bits, IntKind.signed] at this
  omega
theorem slc_its {H : AHeap} {c : CV} {xs : List (Int × Int)} (h : Slc H c (xs.map itc)) : ∃ p cap, c = .slice p xs.length cap ∧ Its H p xs := by
  rcases h with ⟨rfl, h⟩ | ⟨id, t, rfl, h⟩
  · have : xs = [] := by simpa using h
    subst this
    exact ⟨none, .exact 0, rfl, fun h0 => by simp at h0⟩
  · refine ⟨some (id, 0), .any, by simp, fun h0 => ⟨id, t, .ro, rfl, h (by simpa using h0)⟩⟩
theorem items_inv {H : AHeap} {c : CV} {elems : List (List CV)} (h : Slc H c elems) (he : ∀ p ∈ elems, p.length = 2 ∧ ArgOk H tyItem p) : ∃ p cap xs, c = .slice p xs.length cap ∧ Its H p xs ∧ (∀ x ∈ xs, -128 ≤ x.1 ∧ x.1 ≤ 127) ∧ elems.length = xs.length := by
  obtain ⟨xs, rfl, hr⟩ := elems_map (f := itc) (ok := fun x => -128 ≤ x.1 ∧ x.1 ≤ 127) (fun p hp => item_inv hp) (fun p hp => (he p hp).2)
  obtain ⟨p, cap, rfl, h2⟩ := slc_its h
  exact ⟨p, cap, xs, rfl, h2, hr, by simp⟩
theorem its_cpyk {H : AHeap} {k : Nat} {xs : List (Int × Int)} {t : List (Option Blk)} (h : t[k]? = some (cpy xs)) : Its (H ++ t) (some (H.length + k, 0)) xs := fun _ => ⟨H.length + k, 51, .own, rfl, by rw [get_app, h]; rfl⟩
end Go.Proofs.Ytebdajfangbdpaa
