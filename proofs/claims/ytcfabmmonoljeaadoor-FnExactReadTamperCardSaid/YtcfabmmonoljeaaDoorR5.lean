/- What functions of the program answer: part R5. -/
import Derived.Test.YtcfabmmonoljeaaDoorR4
set_option linter.unusedVariables false
set_option linter.unusedSimpArgs false
set_option linter.unusedSectionVars false
namespace Go.Proofs.YtcfabmmonoljeaaDoor
open Go Go.Proofs.YtcfabmmonoljeaaDoor.VI
set_option maxHeartbeats 16000000
set_option maxRecDepth 20000
abbrev ADD : List UInt8 := [97, 100, 100]
abbrev WID : List UInt8 := [119, 105, 100, 101, 110]
abbrev zT : Tm := ⟨0, 0, 0, 0⟩
def mkT (k to n : Int) : Tm := if k = 1 then ⟨k, to, 0, n⟩ else ⟨k, to, n, 0⟩
/-- What the reference makes of a kind, a letter's place and a number. -/
noncomputable def rdN (k to : Int) (x : Nat × Bool) : Tm × Int :=
  if x.2 = true ∧ x.1 ≤ 200 then (if isT (mkT k to x.1) = true then (mkT k to x.1, 0) else (zT, 5)) else (zT, 5)
/-- What the reference reads. -/
noncomputable def rdS (s : List UInt8) : Tm × Int :=
  match splitL 32 s with
  | [w0, w1, w2] => if w0 = ADD then rdN 1 (letW w1) (numR 10 w2) else if w0 = WID then rdN 2 (letW w2) (numR 10 w1) else rdN 0 0 (numR 10 w1)
  | _ => (zT, 5)
/-- What the program makes of a kind, a letter and a number. -/
noncomputable def rdM (s : List UInt8) (k : Int) (l : List UInt8) (x : Nat × Bool) : Tm × Int :=
  if x.2 = true ∧ x.1 ≤ 200 ∧ l.length = 1 ∧ 0 ≤ idxL lettL l then (if isT (mkT k (idxL lettL l) x.1) = true ∧ txt (mkT k (idxL lettL l) x.1) = s then (mkT k (idxL lettL l) x.1, 0) else (zT, 5)) else (zT, 5)
/-- What the program reads. -/
noncomputable def rdI (s : List UInt8) : Tm × Int :=
  match splitL 32 s with
  | [w0, w1, w2] => if w0 = WID then rdM s 2 w2 (numR 9 w1) else rdM s 1 w1 (numR 9 w2)
  | _ => (zT, 5)
theorem rdS_not {s : List UInt8} (h : (splitL 32 s).length ≠ 3) : rdS s = (zT, 5) := by
  unfold rdS
  split
  · rename_i w0 w1 w2 e; rw [e] at h; exact absurd rfl h
  · rfl
theorem rdI_not {s : List UInt8} (h : (splitL 32 s).length ≠ 3) : rdI s = (zT, 5) := by
  unfold rdI
  split
  · rename_i w0 w1 w2 e; rw [e] at h; exact absurd rfl h
  · rfl
theorem three {α : Type} {l : List α} (h : l.length = 3) : ∃ a b c, l = [a, b, c] := by
  match l, h with
  | [a, b, c], _ => exact ⟨a, b, c, rfl⟩
theorem idx_let_eq {w : List UInt8} (h : w.length = 1) : idxL lettL w = letW w := by
  match w, h with
  | [b], _ => exact idx_one
theorem letW_len {w : List UInt8} (h : w.length ≠ 1) : letW w = -1 := by
  rcases letW_rng (w := w) with h1 | ⟨_, _, h1⟩
  · exact h1
  · rw [h1] at h; exact absurd rfl h
theorem txt_add {to n : Int} (h : isT ⟨1, to, 0, n⟩ = true) : txt ⟨1, to, 0, n⟩ = ADD ++ 32 :: ([letB to] ++ 32 :: decD n.toNat) := by
  unfold txt; rw [if_pos h, if_pos rfl]; simp
theorem txt_wid {to n : Int} (h : isT ⟨2, to, n, 0⟩ = true) : txt ⟨2, to, n, 0⟩ = WID ++ 32 :: (decD n.toNat ++ 32 :: [letB to]) := by
  unfold txt; rw [if_pos h, if_neg (show ¬ (2 : Int) = 1 by decide)]; simp
theorem isT_zero {to n : Int} : isT (mkT 0 to n) = false := by
  unfold isT mkT; rw [if_neg (by decide)]; apply decide_eq_false; dsimp only; omega
theorem rdN_bad {k to : Int} {x : Nat × Bool} (h : ¬ (x.2 = true ∧ x.1 ≤ 200)) : rdN k to x = (zT, 5) := by unfold rdN; rw [if_neg h]
theorem rdN_no {k to : Int} {x : Nat × Bool} (h : isT (mkT k to x.1) = false) : rdN k to x = (zT, 5) := by
  unfold rdN; split
  · rw [if_neg (by rw [h]; decide)]
  · rfl
theorem rdM_no {s : List UInt8} {k : Int} {l : List UInt8} {x : Nat × Bool} (h : ¬ (x.2 = true ∧ x.1 ≤ 200 ∧ l.length = 1 ∧ 0 ≤ idxL lettL l ∧ isT (mkT k (idxL lettL l) x.1) = true ∧ txt (mkT k (idxL lettL l) x.1) = s)) : rdM s k l x = (zT, 5) := by
  unfold rdM; split
  · rename_i c
    rw [if_neg (fun d => h ⟨c.1, c.2.1, c.2.2.1, c.2.2.2, d⟩)]
  · rfl
/-- Both read alike, where the text is that of the tamper. -/
theorem rd_alike {s : List UInt8} {k : Int} {l d : List UInt8} (hk : k = 1 ∨ k = 2) (ht : ∀ (n : Nat), decD n = d → l = [letB (letW l)] → isT (mkT k (letW l) n) = true → txt (mkT k (letW l) n) = s) : rdM s k l (numR 9 d) = rdN k (letW l) (numR 10 d) := by
  by_cases h9 : (numR 9 d).2 = true ∧ (numR 9 d).1 ≤ 200
  · have e9 : numR 9 d = ((numR 9 d).1, true) := by rw [← h9.1]
    have e10 := (numR_two h9.2).1 e9
    have hd := numR_true h9.1
    generalize (numR 9 d).1 = n at *
    have hn : n ≤ 200 := h9.2
    rw [e9, e10]
    by_cases hl : l.length = 1
    · have hi := idx_let_eq hl
      rcases letW_rng (w := l) with h1 | ⟨h1, h2, h3⟩
      · rw [rdM_no (by rw [hi, h1]; intro hh; exact absurd hh.2.2.2.1 (by decide)), rdN_no (by rw [h1]; unfold isT mkT; apply decide_eq_false; split <;> (dsimp only; omega))]
      · cases hT : isT (mkT k (letW l) n)
        · rw [rdM_no (by rw [hi]; intro hh; rw [hT] at hh; exact absurd hh.2.2.2.2.1 (by decide)), rdN_no hT]
        · have hs := ht n hd h3 hT
          unfold rdM rdN
          rw [hi, if_pos ⟨rfl, hn, hl, h1⟩, if_pos ⟨hT, hs⟩, if_pos ⟨rfl, hn⟩, if_pos hT]
    · rw [rdM_no (fun hh => hl hh.2.2.1), rdN_no (by rw [letW_len hl]; unfold isT mkT; apply decide_eq_false; split <;> (dsimp only; omega))]
  · have h10 : ¬ ((numR 10 d).2 = true ∧ (numR 10 d).1 ≤ 200) := fun hh => by
      have e10 : numR 10 d = ((numR 10 d).1, true) := by rw [← hh.1]
      have e9 := (numR_two hh.2).2 e10
      exact h9 (by rw [e9]; exact ⟨rfl, hh.2⟩)
    rw [rdN_bad h10, rdM_no (fun hh => h9 ⟨hh.1, hh.2.1⟩)]
theorem add_no : ∀ b ∈ ADD, b ≠ 32 := by decide
/-- The program reads what the reference reads. -/
theorem rd_eq (s : List UInt8) : rdI s = rdS s := by
  by_cases h3 : (splitL 32 s).length = 3
  · obtain ⟨w0, w1, w2, e⟩ := three h3
    have hj := join_split 32 s
    rw [e] at hj
    have hj : w0 ++ 32 :: (w1 ++ 32 :: w2) = s := hj
    have hI : rdI s = if w0 = WID then rdM s 2 w2 (numR 9 w1) else rdM s 1 w1 (numR 9 w2) := by unfold rdI; rw [e]
    have hS : rdS s = if w0 = ADD then rdN 1 (letW w1) (numR 10 w2) else if w0 = WID then rdN 2 (letW w2) (numR 10 w1) else rdN 0 0 (numR 10 w1) := by unfold rdS; rw [e]
    rw [hI, hS]
    by_cases a : w0 = ADD
    · rw [if_pos a, if_neg (by rw [a]; decide)]
      refine rd_alike (.inl rfl) (fun n hn hl hT => ?_)
      have hm : mkT 1 (letW w1) n = ⟨1, letW w1, 0, n⟩ := by unfold mkT; rw [if_pos rfl]
      rw [hm] at hT ⊢
      rw [txt_add hT, ← hl, Int.toNat_natCast, hn, ← a, hj]
    · rw [if_neg a]
      by_cases b : w0 = WID
      · rw [if_pos b, if_pos b]
        refine rd_alike (.inr rfl) (fun n hn hl hT => ?_)
        have hm : mkT 2 (letW w2) n = ⟨2, letW w2, n, 0⟩ := by unfold mkT; rw [if_neg (by decide)]
        rw [hm] at hT ⊢
        rw [txt_wid hT, ← hl, Int.toNat_natCast, hn, ← b, hj]
      · rw [if_neg b, if_neg b, rdN_no isT_zero]
        refine rdM_no (fun hh => a ?_)
        obtain ⟨_, _, _, _, hT, hx⟩ := hh
        have hm : mkT 1 (idxL lettL w1) (numR 9 w2).1 = ⟨1, idxL lettL w1, 0, (numR 9 w2).1⟩ := by unfold mkT; rw [if_pos rfl]
        rw [hm] at hT hx
        rw [txt_add hT] at hx
        have h2 := split_app (c := 32) (l := [letB (idxL lettL w1)] ++ 32 :: decD ((((numR 9 w2).1 : Nat) : Int)).toNat) add_no
        rw [hx, e] at h2
        exact (List.cons.inj h2).1
  · rw [rdI_not h3, rdS_not h3]
end Go.Proofs.YtcfabmmonoljeaaDoor
