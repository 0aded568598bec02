/- What functions of the program answer: part B3. -/
import Derived.Test.YtmockobmiagbcaaDoorB2
set_option linter.unusedVariables false
set_option linter.unusedSimpArgs false
set_option linter.unusedSectionVars false
namespace Go.Proofs.YtmockobmiagbcaaDoor
open Go Go.Proofs.YtmockobmiagbcaaDoor.VI
set_option maxHeartbeats 16000000
set_option maxRecDepth 20000
/-! The program reads a loan's text -/
theorem idx_step {b : UInt8} {l t : List UInt8} : idxL (b :: l) t = if t.isPrefixOf (b :: l) = true then 0 else if idxL l t == -1 then -1 else idxL l t + 1 := by rw [idxL]
theorem pre2 {x c b : UInt8} {t l : List UInt8} (hb : l.head? ≠ some c) : (x :: c :: t).isPrefixOf (b :: l) = false := by
  cases l with
  | nil => simp [List.isPrefixOf]
  | cons d l =>
    have : ¬ c = d := fun e => hb (by rw [e]; rfl)
    simp [List.isPrefixOf, this]
theorem idx2 {x c : UInt8} {t r : List UInt8} (hx : x ≠ c) : ∀ {a : List UInt8}, (∀ b ∈ a, b ≠ c) → idxL (a ++ (x :: c :: t) ++ r) (x :: c :: t) = a.length
  | [], _ => by
    show idxL (x :: (c :: t ++ r)) _ = _
    rw [idx_step, if_pos]; rfl
    simp [List.isPrefixOf, List.isPrefixOf_iff_prefix]
  | b :: a, h => by
    have ih := idx2 (t := t) (r := r) hx (a := a) (fun b hb => h b (by simp [hb]))
    show idxL (b :: (a ++ (x :: c :: t) ++ r)) _ = _
    rw [idx_step, pre2, if_neg (by decide), ih, if_neg (by simp)]
    · simp
    · cases a with
      | nil => simpa using hx
      | cons d a => simpa using h d (by simp)
theorem idx2n {x c : UInt8} {t : List UInt8} : ∀ {a : List UInt8}, (∀ b ∈ a, b ≠ c) → idxL a (x :: c :: t) = -1
  | [], _ => rfl
  | b :: a, h => by
    have ih := idx2n (x := x) (t := t) (a := a) (fun b hb => h b (by simp [hb]))
    rw [idx_step, pre2, if_neg (by decide), ih]
    · rfl
    · cases a with
      | nil => simp
      | cons d a => simpa using h d (by simp)
theorem idx1 {c : UInt8} {r : List UInt8} : ∀ {a : List UInt8}, (∀ b ∈ a, b ≠ c) → idxL (a ++ [c] ++ r) [c] = a.length
  | [], _ => by
    show idxL (c :: r) _ = _
    rw [idx_step, if_pos]; rfl
    simp [List.isPrefixOf]
  | b :: a, h => by
    have ih := idx1 (r := r) (a := a) (fun b hb => h b (by simp [hb]))
    have hb : ¬ c = b := fun e => h b (by simp) e.symm
    show idxL (b :: (a ++ [c] ++ r)) _ = _
    rw [idx_step, if_neg (by simp [List.isPrefixOf, hb]), ih, if_neg (by simp)]
    simp
theorem cut_of {a t r : List UInt8} (h : idxL (a ++ t ++ r) t = a.length) : cutL (a ++ t ++ r) t = (a, r, true) := by
  unfold cutL
  rw [h, if_neg (by omega), Int.toNat_natCast]
  simp
theorem cut_no {a t : List UInt8} (h : idxL a t = -1) : cutL a t = (a, [], false) := by
  unfold cutL
  rw [if_pos h]
theorem decD_noc {n : Nat} {c : UInt8} (h : isDig c = false) : ∀ b ∈ decD n, b ≠ c := by
  intro b hb e
  have := List.all_eq_true.1 (decD_digs n) b hb
  rw [e, h] at this; cases this
theorem mem_joinT {b : UInt8} : ∀ {ps : List (List UInt8)}, b ∈ joinT [32] ps → b = 32 ∨ ∃ p ∈ ps, b ∈ p
  | [], h => by simp [joinT] at h
  | [p], h => .inr ⟨p, by simp, by simpa [joinT] using h⟩
  | p :: q :: r, h => by
    have e : joinT [32] (p :: q :: r) = p ++ 32 :: joinT [32] (q :: r) := by rw [joinT]; simp
    rw [e] at h
    rcases List.mem_append.1 h with h | h
    · exact .inr ⟨p, by simp, h⟩
    · rcases List.mem_cons.1 h with h | h
      · exact .inl h
      · rcases mem_joinT h with h | ⟨x, hx, h⟩
        · exact .inl h
        · exact .inr ⟨x, by simp [hx], h⟩
theorem unitB_no {i : Nat} (h : i < 3) : unitB i ≠ 111 := by
  match i, h with
  | 0, _ => decide
  | 1, _ => decide
  | 2, _ => decide
theorem pF_noo : ∀ (ns : List Int) (i : Nat), i + ns.length ≤ 3 → ∀ p ∈ pF ns i, ∀ b ∈ p, b ≠ 111
  | [], i, _ => by intro p hp; simp [pF] at hp
  | n :: ns, i, h => by
    simp only [List.length_cons] at h
    intro p hp b hb
    unfold pF at hp
    rcases List.mem_append.1 hp with hp | hp
    · split at hp
      · rw [List.mem_singleton] at hp
        subst hp
        rcases List.mem_append.1 hb with hb | hb
        · exact decD_noc (by decide) b hb
        · rw [List.mem_singleton] at hb; subst hb; exact unitB_no (by omega)
      · cases hp
    · exact pF_noo ns (i + 1) (by omega) p hp b hb
theorem amtT_noo {a : Int} : ∀ b ∈ amtT a, b ≠ 111 := by
  intro b hb
  unfold amtT at hb
  by_cases h : a = 0
  · rw [if_pos h] at hb
    simp at hb
    rcases hb with e | e <;> subst e <;> decide
  · rw [if_neg h] at hb
    rcases mem_joinT hb with h | ⟨p, hp, h⟩
    · subst h; decide
    · exact pF_noo _ _ (by simp [ptsA]) p hp b h
theorem rlI_of {l : Ln} (h : okL l = true) : rlI (lnT l) = some l := by
  obtain ⟨h1, h2, ⟨h3, h4⟩, h5⟩ := okL_p h
  have dg : ∀ (n : Int), (decD n.toNat).length = (decD n.toNat).length := fun _ => rfl
  let M : List UInt8 := decD l.n.toNat ++ [47] ++ decD l.D.toNat
  let E : List UInt8 := if 0 < l.v then evL ++ decD l.v.toNat else []
  have e1 : lnT l = amtT l.A ++ onL ++ (decD l.d.toNat ++ atL ++ (M ++ E)) := by
    unfold lnT
    simp only [M, E, List.append_assoc, List.cons_append, List.nil_append]
  have c1 : cutL (lnT l) onL = (amtT l.A, decD l.d.toNat ++ atL ++ (M ++ E), true) := by
    rw [e1]; exact cut_of (idx2 (by decide) amtT_noo)
  have c2 : cutL (decD l.d.toNat ++ atL ++ (M ++ E)) atL = (decD l.d.toNat, M ++ E, true) := cut_of (idx2 (by decide) (decD_noc (by decide)))
  have hM : ∀ b ∈ M, b ≠ 101 := by
    intro b hb
    simp only [M, List.mem_append, List.mem_singleton] at hb
    rcases hb with (hb | hb) | hb
    · exact decD_noc (by decide) b hb
    · subst hb; decide
    · exact decD_noc (by decide) b hb
  have c4 : cutL M [47] = (decD l.n.toNat, decD l.D.toNat, true) := cut_of (idx1 (decD_noc (by decide)))
  have nd := numR_dec (lim := 9) (n := l.d.toNat) (by omega) (by omega)
  have nn := numR_dec (lim := 9) (n := l.n.toNat) (by omega) (by omega)
  have nD := numR_dec (lim := 9) (n := l.D.toNat) (by omega) (by omega)
  have nv := numR_dec (lim := 9) (n := l.v.toNat) (by omega) (by omega)
  have z1 : (l.d.toNat : Int) = l.d := by omega
  have z2 : (l.n.toNat : Int) = l.n := by omega
  have z3 : (l.D.toNat : Int) = l.D := by omega
  have z4 : (l.v.toNat : Int) = l.v := by omega
  unfold rlI
  by_cases hv : 0 < l.v
  · have hE : E = evL ++ decD l.v.toNat := if_pos hv
    have c3 : cutL (M ++ E) evL = (M, decD l.v.toNat, true) := by
      rw [hE, ← List.append_assoc]; exact cut_of (idx2 (by decide) hM)
    simp only [c1, c2, c3, c4, amR_of (show amt l.A from h1), and_self, if_true, allN, List.all_cons, List.all_nil, nd, nn, nD, nv, Bool.and_self, z1, z2, z3, z4]
    rw [if_pos ⟨h, trivial⟩]
  · have hE : E = [] := if_neg hv
    have c3 : cutL (M ++ E) evL = (M, [], false) := by
      rw [hE, List.append_nil]; exact cut_no (idx2n hM)
    have hv0 : l.v = 0 := by omega
    have el : (⟨l.A, l.d, l.n, l.D, 0⟩ : Ln) = l := by rw [← hv0]
    simp only [c1, c2, c3, c4, amR_of (show amt l.A from h1), and_self, if_true, Bool.false_eq_true, if_false, allN, List.all_cons, List.all_nil, nd, nn, nD, Bool.and_self, z1, z2, z3, el]
    rw [if_pos ⟨h, trivial⟩]
end Go.Proofs.YtmockobmiagbcaaDoor
