/- What functions of the program answer: parts Cut Cut2. -/
import Derived.Test.YtnblibimbggheaaTm
/- What functions of the program answer: part Cut. -/
set_option linter.unusedVariables false
set_option linter.unusedSimpArgs false
set_option linter.unusedSectionVars false
namespace Go.Proofs.Ytnblibimbggheaa
open Go Go.Proofs.Ytnblibimbggheaa.VI
set_option maxHeartbeats 16000000
set_option maxRecDepth 20000
/-! A further notch -/
def cutI (a : Int) : List Nt → Nat
  | [] => 0
  | x :: xs => if x.a ≤ a then cutI a xs + 1 else 0
theorem cutI_le {a : Int} : ∀ {xs : List Nt}, cutI a xs ≤ xs.length
  | [] => Nat.le_refl _
  | x :: xs => by unfold cutI; split; simp only [List.length_cons]; exact Nat.succ_le_succ cutI_le; simp
def cutP (xs : List Nt) (k a : Int) : List Nt := xs.take (cutI a xs) ++ ⟨k, a⟩ :: xs.drop (cutI a xs)
theorem cutP_len {xs : List Nt} {k a : Int} : (cutP xs k a).length = xs.length + 1 := by
  have := cutI_le (a := a) (xs := xs)
  unfold cutP; simp; omega
theorem cutP_mem {xs : List Nt} {k a : Int} {x : Nt} (h : x ∈ cutP xs k a) : x = ⟨k, a⟩ ∨ x ∈ xs := by
  unfold cutP at h
  rcases List.mem_append.1 h with h | h
  · exact .inr (List.mem_of_mem_take h)
  · rcases List.mem_cons.1 h with h | h
    · exact .inl h
    · exact .inr (List.mem_of_mem_drop h)
/-- New halves. -/
structure HfNw (H J : AHeap) (y : Hf) : Prop where
  few : y.xs.length ≤ 4398046511104
  rng : ∀ x ∈ y.xs, rngN x
  new : NwN H J y.p y.xs
theorem HfNw.at_ {H J : AHeap} {y : Hf} (h : HfNw H J y) : HfAt J y := ⟨h.few, h.rng, h.new.nts⟩
theorem HfNw.pre {H J K : AHeap} {y : Hf} (h : HfNw H J y) (k : Pre J K) : HfNw H K y := ⟨h.few, h.rng, h.new.pre k⟩
theorem HfNw.base {G H J : AHeap} {y : Hf} (h : HfNw H J y) (k : Pre G H) : HfNw G J y := ⟨h.few, h.rng, h.new.base k⟩
theorem NwN.setb {G J : AHeap} {p : Option (Nat × Nat)} {xs : List Nt} {i : Nat} {b : Option Blk} (h : NwN G J p xs) (hi : i < G.length) : NwN G (J.set i b) p xs := fun h0 => by
  obtain ⟨id, m, h1, h3, h2, h4⟩ := h h0
  exact ⟨id, m, h1, h3, by rw [get_neh (by omega)]; exact h2, h4⟩
theorem HfNw.setb {G J : AHeap} {y : Hf} {i : Nat} {b : Option Blk} (h : HfNw G J y) (hi : i < G.length) : HfNw G (J.set i b) y := ⟨h.few, h.rng, h.new.setb hi⟩
abbrev zrow : List CV := [.bool false, .slice none 0 (.exact 0), .int .i8 0, .int .i8 0, .int .i8 0, .int .i8 0, .int .i8 0, .int .i8 0, .int .i8 0, .int .i8 0, .int .i8 0, .int .i8 0, .int .i8 0, .int .i8 0, .int .i8 0, .int .i8 0, .int .i8 0, .int .i8 0]
abbrev zbl : Option Blk := some ⟨36, zrow, .own⟩
end Go.Proofs.Ytnblibimbggheaa

/- What functions of the program answer: part Cut2. -/
set_option linter.unusedVariables false
set_option linter.unusedSimpArgs false
set_option linter.unusedSectionVars false
namespace Go.Proofs.Ytnblibimbggheaa
open Go Go.Proofs.Ytnblibimbggheaa.VI
set_option maxHeartbeats 16000000
set_option maxRecDepth 20000
/-! A half's contents -/
structure Pr where
  st : Bool
  xs : List Nt
  g : List Int
abbrev Hf.pr (h : Hf) : Pr := ⟨h.st, h.xs, h.g⟩
def zPr : Pr := ⟨false, [], List.replicate 16 0⟩
def okP (p : Pr) : Bool := okH p.xs p.g
/-- Cutting a further notch. -/
def cnR (p : Pr) (k a : Int) : Pr × Int := if (0 ≤ k ∧ k ≤ 5) ∧ 0 ≤ a ∧ a ≤ 200 then if okH (cutP p.xs k a) p.g = true then (⟨p.st, cutP p.xs k a, p.g⟩, 0) else (zPr, 4) else (zPr, 2)
def zHf : Hf := ⟨false, none, .exact 0, [], List.replicate 16 0, rfl⟩
theorem zHf_nw {H J : AHeap} : HfNw H J zHf := ⟨by simp [zHf], fun x h => by simp [zHf] at h, fun h => by simp [zHf] at h⟩
theorem okF_few {h : Hf} (o : okF h = true) : h.xs.length ≤ 60 := (okH_p o).1
end Go.Proofs.Ytnblibimbggheaa
