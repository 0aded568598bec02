/- What functions of the program answer: part LawG. -/
import Derived.Test.YtnblibimbggheaaTam3
import Derived.Test.YtnblibimbggheaaHalvesInv
set_option linter.unusedVariables false
set_option linter.unusedSimpArgs false
set_option linter.unusedSectionVars false
namespace Go.Proofs.Ytnblibimbggheaa
open Go Go.Proofs.Ytnblibimbggheaa.VI
set_option maxHeartbeats 16000000
set_option maxRecDepth 20000
/-! What a law makes of its arguments -/
structure HfOwn (H J : AHeap) (y : Hf) : Prop where
  few : y.xs.length ≤ 1048576
  rng : ∀ x ∈ y.xs, rngN x
  own : ∃ id, y.p = some (id, 0) ∧ H.length ≤ id ∧ J.get id = ncpy y.xs
theorem HfOwn.nw {H J : AHeap} {y : Hf} (h : HfOwn H J y) : HfNw H J y := by
  obtain ⟨id, h1, h2, h3⟩ := h.own
  exact ⟨by have := h.few; omega, h.rng, fun _ => ⟨id, .own, h1, h2, h3, .inl rfl⟩⟩
theorem HfOwn.at_ {H J : AHeap} {y : Hf} (h : HfOwn H J y) : HfAt J y := h.nw.at_
theorem HfOwn.pre {H J K : AHeap} {y : Hf} (h : HfOwn H J y) (k : Pre J K) : HfOwn H K y := by
  obtain ⟨id, h1, h2, h3⟩ := h.own
  exact ⟨h.few, h.rng, id, h1, h2, k.get h3⟩
theorem toH {x : Hf} {H : AHeap} (hx : HfAt H x) (few : x.xs.length ≤ 1048576) : ∃ y J, ev kk 13 [.agg (hfr x)] H = some (.agg (hfr y), J) ∧ Pre H J ∧ y.pr = x.pr ∧ HfOwn H J y :=
  ⟨⟨x.st, some (H.length + 3, 0), .exact x.xs.length, x.xs, x.g, x.g16⟩, _, run13 (cap := x.cap) (st := x.st) x.g16 few hx.at_, pre_app, rfl, few, hx.rng, H.length + 3, rfl, by omega, by rw [get_app]; rfl⟩
theorem eqH {x y : Hf} {H : AHeap} (h : y.pr = x.pr) (hx : HfAt H x) (hy : HfAt H y) : ev kk 16 [.agg (hfr x), .agg (hfr y)] H = some (.c (.bool true), H) := by
  obtain ⟨st, p, cap, xs, g, hg⟩ := x
  obtain ⟨st', p', cap', xs', g', hg'⟩ := y
  simp only [Hf.pr, Pr.mk.injEq] at h
  obtain ⟨rfl, rfl, rfl⟩ := h
  exact run16 hg hx.few hx.at_ hy.at_
abbrev b26 (x : Hf) : Option Blk := some ⟨26, hfr x, .own⟩
end Go.Proofs.Ytnblibimbggheaa
