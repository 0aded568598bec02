/- What functions of the program answer: part Small. -/
import Derived.Test.YtnblibimbggheaaSrc
import Derived.Test.YtnblibimbggheaaWear
set_option linter.unusedVariables false
set_option linter.unusedSimpArgs false
set_option linter.unusedSectionVars false
namespace Go.Proofs.Ytnblibimbggheaa
open Go Go.Proofs.Ytnblibimbggheaa.VI
set_option maxHeartbeats 16000000
set_option maxRecDepth 20000
/-! Small halves that are drawn -/
section
variable {G : AHeap} {T : List (Option Blk)} {cs : CV} {l : List Int}
end
/-! The grain from a seed -/
/-! Notches in a row -/
theorem ntsG_snoc {x : Nt} : ∀ {xs : List Nt} {pv : Option Nt}, ntsG pv xs = true → okN x = true → (∀ y, (xs.getLast? = some y ∨ (xs = [] ∧ pv = some y)) → nxtOk (some y) x = true) → ntsG pv (xs ++ [x]) = true
  | [], pv, _, ho, hn => by
    show (okN x && nxtOk pv x && ntsG (some x) []) = true
    rw [ho]
    cases pv with
    | none => rfl
    | some y => rw [hn y (.inr ⟨rfl, rfl⟩)]; rfl
  | z :: zs, pv, h, ho, hn => by
    have h : (okN z && nxtOk pv z && ntsG (some z) zs) = true := h
    show (okN z && nxtOk pv z && ntsG (some z) (zs ++ [x])) = true
    rw [Bool.and_eq_true] at h ⊢
    refine ⟨h.1, ntsG_snoc h.2 ho (fun y hy => hn y ?_)⟩
    rcases hy with hy | ⟨rfl, hy⟩
    · exact .inl (by rw [List.getLast?_cons]; simp [hy])
    · injection hy with hy; subst hy; exact .inl rfl
/-- What is drawn so far. -/
structure Row (xs : List Nt) (pos kind : Int) : Prop where
  ok : ntsG none xs = true
  last : ∀ y, xs.getLast? = some y → endN y < pos ∧ kind ≤ y.k
  rng : ∀ x ∈ xs, rngN x
theorem Row.step {xs : List Nt} {pos kind pos' kind' : Int} (h : Row xs pos kind) (hp : 0 ≤ pos ∧ pos ≤ 150) (hk : 0 ≤ kind ∧ kind ≤ 5) (h1 : pos + wdt kind < pos') (h2 : kind' ≤ kind) : Row (xs ++ [⟨kind, pos⟩]) pos' kind' := by
  have hw := wdt_b kind
  refine ⟨ntsG_snoc h.ok ?_ (fun y hy => ?_), fun y hy => ?_, fun x hx => ?_⟩
  · unfold okN endN; simp; omega
  · rcases hy with hy | ⟨_, hy⟩
    · have := h.last y hy
      unfold nxtOk; simp; exact this
    · cases hy
  · rw [List.getLast?_append] at hy
    simp at hy; subst hy
    exact ⟨h1, h2⟩
  · rcases List.mem_append.1 hx with hx | hx
    · exact h.rng x hx
    · simp at hx; subst hx; unfold rngN; dsimp only; omega
end Go.Proofs.Ytnblibimbggheaa
