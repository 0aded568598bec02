/- What functions of the program answer: parts LawG MarkH Ways Ways2. -/
import Derived.Test.YtnblibimbggheaaTam3
import Derived.Test.YtnblibimbggheaaSlices
/- What functions of the program answer: part LawG. -/
set_option linter.unusedVariables false
set_option linter.unusedSimpArgs false
set_option linter.unusedSectionVars false
namespace Go.Proofs.Ytnblibimbggheaa
open Go Go.Proofs.Ytnblibimbggheaa.VI
set_option maxHeartbeats 16000000
set_option maxRecDepth 20000
/-! What a law makes of its arguments -/
structure HfOwn (H J : AHeap) (y : Hf) : Prop where
  few : y.xs.length ≤ 1048576
  rng : ∀ x ∈ y.xs, rngN x
  own : ∃ id, y.p = some (id, 0) ∧ H.length ≤ id ∧ J.get id = ncpy y.xs
theorem HfOwn.nw {H J : AHeap} {y : Hf} (h : HfOwn H J y) : HfNw H J y := by
  obtain ⟨id, h1, h2, h3⟩ := h.own
  exact ⟨by have := h.few; omega, h.rng, fun _ => ⟨id, .own, h1, h2, h3, .inl rfl⟩⟩
theorem HfOwn.at_ {H J : AHeap} {y : Hf} (h : HfOwn H J y) : HfAt J y := h.nw.at_
theorem HfOwn.pre {H J K : AHeap} {y : Hf} (h : HfOwn H J y) (k : Pre J K) : HfOwn H K y := by
  obtain ⟨id, h1, h2, h3⟩ := h.own
  exact ⟨h.few, h.rng, id, h1, h2, k.get h3⟩
end Go.Proofs.Ytnblibimbggheaa

/- What functions of the program answer: part MarkH. -/
set_option linter.unusedVariables false
set_option linter.unusedSimpArgs false
set_option linter.unusedSectionVars false
namespace Go.Proofs.Ytnblibimbggheaa
open Go Go.Proofs.Ytnblibimbggheaa.VI
set_option maxHeartbeats 16000000
set_option maxRecDepth 20000
/-! Marks in notches -/
def mkN1 (k : Int) : Nt := ⟨IntKind.i8.wrap k, IntKind.i16.wrap (k + 1)⟩
def mkN (k : Int) (n : Nat) : List Nt := (List.range n).map fun i : Nat => mkN1 (k + 2 * (i : Int))
/-! .. of halves -/
def MkAt (K : AHeap) (y : Hf) (k : Int) : Prop := 0 < y.xs.length → ∃ id m, y.p = some (id, 0) ∧ K.get id = some ⟨119, nrows (mkN k y.xs.length), m⟩
theorem MkAt.pre {J K : AHeap} {y : Hf} {k : Int} (h : MkAt J y k) (q : Pre J K) : MkAt K y k := fun h0 => by
  obtain ⟨id, m, h1, h2⟩ := h h0; exact ⟨id, m, h1, q.get h2⟩
end Go.Proofs.Ytnblibimbggheaa

/- What functions of the program answer: part Ways. -/
set_option linter.unusedVariables false
set_option linter.unusedSimpArgs false
set_option linter.unusedSectionVars false
namespace Go.Proofs.Ytnblibimbggheaa
open Go Go.Proofs.Ytnblibimbggheaa.VI
set_option maxHeartbeats 16000000
set_option maxRecDepth 20000
/-! The ways to tamper with a half -/
abbrev trows (ts : List Tm) : List CV := (ts.map trow).flatten
theorem trow_len (t : Tm) : (trow t).length = 4 := rfl
theorem trowl {ts : List Tm} : (trows ts).length = ts.length * 4 := rows_len trow_len
theorem trows_snoc {ts : List Tm} {t : Tm} : trows ts ++ trow t = trows (ts ++ [t]) := by simp [trows]
def wkF (p : Pr) (i : Int) : Nat → Int → List Tm
  | 0, _ => []
  | n + 1, k => (if (tmR p ⟨2, k, i, 0⟩).2 = 0 then [⟨2, k, i, 0⟩] else []) ++ wkF p i n (k + 1)
def wiF (p : Pr) : Nat → Int → List Tm
  | 0, _ => []
  | n + 1, i => wkF p i 6 0 ++ wiF p n (i + 1)
def rmF (p : Pr) (k : Int) : Nat → Int → List Int
  | 0, _ => []
  | n + 1, a => (if (tmR p ⟨1, k, 0, a⟩).2 = 0 then [a] else []) ++ rmF p k n (a + 1)
def ad1 (k : Int) : List Int → List Tm
  | [] => []
  | a :: _ => [⟨1, k, 0, a⟩]
def adF (p : Pr) : Nat → Int → List Tm
  | 0, _ => []
  | n + 1, k => ad1 k (rmF p k 201 0) ++ adF p n (k + 1)
def waysP (p : Pr) : List Tm := wiF p p.xs.length 0 ++ adF p 6 0
theorem wkF_len {p : Pr} {i : Int} : ∀ {n : Nat} {k : Int}, (wkF p i n k).length ≤ n
  | 0, k => Nat.le_refl _
  | n + 1, k => by
    have := wkF_len (p := p) (i := i) (n := n) (k := k + 1)
    unfold wkF
    rw [List.length_append]
    split <;> simp only [List.length_cons, List.length_nil] <;> omega
theorem wiF_len {p : Pr} : ∀ {n : Nat} {i : Int}, (wiF p n i).length ≤ 6 * n
  | 0, i => Nat.le_refl _
  | n + 1, i => by
    have := wiF_len (p := p) (n := n) (i := i + 1)
    have := wkF_len (p := p) (i := i) (n := 6) (k := 0)
    unfold wiF
    rw [List.length_append]
    omega
theorem ad1_len {k : Int} {l : List Int} : (ad1 k l).length ≤ 1 := by cases l <;> simp [ad1]
theorem adF_len {p : Pr} : ∀ {n : Nat} {k : Int}, (adF p n k).length ≤ n
  | 0, k => Nat.le_refl _
  | n + 1, k => by
    have := adF_len (p := p) (n := n) (k := k + 1)
    have := ad1_len (k := k) (l := rmF p k 201 0)
    unfold adF
    rw [List.length_append]
    omega
/-! Room -/
end Go.Proofs.Ytnblibimbggheaa

/- What functions of the program answer: part Ways2. -/
set_option linter.unusedVariables false
set_option linter.unusedSimpArgs false
set_option linter.unusedSectionVars false
namespace Go.Proofs.Ytnblibimbggheaa
open Go Go.Proofs.Ytnblibimbggheaa.VI
set_option maxHeartbeats 16000000
set_option maxRecDepth 20000
theorem rmF_rng {p : Pr} {k : Int} : ∀ {n : Nat} {a x : Int}, x ∈ rmF p k n a → a ≤ x ∧ x < a + n
  | 0, a, x, h => by cases h
  | n + 1, a, x, h => by
    unfold rmF at h
    rcases List.mem_append.1 h with h | h
    · split at h
      · simp at h; omega
      · cases h
    · have := rmF_rng h; omega
end Go.Proofs.Ytnblibimbggheaa
