/- What functions of the program answer: part A5. -/
import Derived.Test.YtmockobmiagbcaaDoorA2
set_option linter.unusedVariables false
set_option linter.unusedSimpArgs false
set_option linter.unusedSectionVars false
namespace Go.Proofs.YtmockobmiagbcaaDoor
open Go Go.Proofs.YtmockobmiagbcaaDoor.VI
set_option maxHeartbeats 16000000
set_option maxRecDepth 20000
/-! An amount's text is read -/
theorem split_join : ∀ (ps : List (List UInt8)), ps ≠ [] → (∀ p ∈ ps, ∀ b ∈ p, b ≠ 32) → splitL 32 (joinT [32] ps) = ps
  | [], h, _ => absurd rfl h
  | [p], _, h => by rw [joinT]; exact split_one (h p (by simp))
  | p :: q :: r, _, h => by
    have ih := split_join (q :: r) (by simp) (fun x hx => h x (by simp [hx]))
    have e : joinT [32] (p :: q :: r) = p ++ 32 :: joinT [32] (q :: r) := by rw [joinT]; simp
    rw [e, split_app (h p (by simp)), ih]
noncomputable def wds (a : Int) : List (List UInt8) := if a = 0 then [[48, 100]] else pF (ptsA a) 0
theorem unitB_ne {i : Nat} (h : i < 3) : unitB i ≠ 32 := by
  match i, h with
  | 0, _ => decide
  | 1, _ => decide
  | 2, _ => decide
theorem pF_no : ∀ (ns : List Int) (i : Nat), i + ns.length ≤ 3 → ∀ p ∈ pF ns i, ∀ b ∈ p, b ≠ 32
  | [], i, _ => by intro p hp; simp [pF] at hp
  | n :: ns, i, h => by
    simp only [List.length_cons] at h
    intro p hp b hb
    unfold pF at hp
    rcases List.mem_append.1 hp with hp | hp
    · split at hp
      · rw [List.mem_singleton] at hp
        subst hp
        rcases List.mem_append.1 hb with hb | hb
        · exact decD_no _ b hb
        · rw [List.mem_singleton] at hb; subst hb; exact unitB_ne (by omega)
      · cases hp
    · exact pF_no ns (i + 1) (by omega) p hp b hb
theorem wds_no {a : Int} : ∀ p ∈ wds a, ∀ b ∈ p, b ≠ 32 := by
  unfold wds
  by_cases h : a = 0
  · rw [if_pos h]
    intro p hp b hb
    rw [List.mem_singleton] at hp
    subst hp
    simp at hb
    rcases hb with e | e <;> subst e <;> decide
  · rw [if_neg h]; exact pF_no _ _ (by simp [ptsA])
theorem wds_ne {a : Int} (h : 0 ≤ a) : wds a ≠ [] := by
  unfold wds
  by_cases h : a = 0
  · rw [if_pos h]; simp
  · rw [if_neg h]; exact List.length_pos_iff.1 (pF_pos (by omega))
theorem split_wds {a : Int} (h : 0 ≤ a) : splitL 32 (amtT a) = wds a := by
  have e : amtT a = joinT [32] (wds a) := by
    unfold amtT wds
    by_cases h : a = 0
    · rw [if_pos h, if_pos h]; rfl
    · rw [if_neg h, if_neg h]
  rw [e]
  exact split_join _ (wds_ne h) wds_no
def uIx (i : Nat) : Int := if i = 0 then 240 else if i = 1 then 12 else 1
theorem uIx_eq {i : Nat} (h : i < 3) : 0 ≤ idxL dslL [unitB i] ∧ uV (idxL dslL [unitB i]) = uIx i := by
  match i, h with
  | 0, _ => decide
  | 1, _ => decide
  | 2, _ => decide
theorem wordI_of {w : List UInt8} {b : UInt8} (h : w.getLast? = some b) : wordI w = if (numR 9 w.dropLast).2 = true ∧ 0 ≤ idxL dslL [b] then some (((numR 9 w.dropLast).1 : Int) * uV (idxL dslL [b])) else none := by unfold wordI; rw [h]
theorem wordI_dec {n i : Nat} (hn : n ≤ 100000000) (h : i < 3) : wordI (decD n ++ [unitB i]) = some ((n : Int) * uIx i) := by
  obtain ⟨u1, u2⟩ := uIx_eq h
  rw [wordI_of (b := unitB i) (by simp), List.dropLast_concat, numR_dec (by omega) (by omega), if_pos ⟨rfl, u1⟩, u2]
def pSum : List Int → Nat → Int
  | [], _ => 0
  | n :: ns, i => n * uIx i + pSum ns (i + 1)
theorem sum_pF {f : List UInt8 → Option Int} (hf : ∀ n i : Nat, n ≤ 100000000 → i < 3 → f (decD n ++ [unitB i]) = some ((n : Int) * uIx i)) : ∀ (ns : List Int) (i : Nat) (acc : Int), i + ns.length ≤ 3 → (∀ n ∈ ns, 0 ≤ n ∧ n ≤ 100000000) → sumF f acc (pF ns i) = some (acc + pSum ns i)
  | [], i, acc, _, _ => by show some acc = some (acc + 0); rw [Int.add_zero]
  | n :: ns, i, acc, h, hb => by
    simp only [List.length_cons] at h
    have hn := hb n (by simp)
    have ih := fun acc => sum_pF hf ns (i + 1) acc (by omega) (fun x hx => hb x (by simp [hx]))
    unfold pF
    by_cases c : 0 < n
    · rw [if_pos c]
      show sumF f acc ((decD n.toNat ++ [unitB i]) :: pF ns (i + 1)) = _
      rw [sumF, hf n.toNat i (by omega) (by omega)]
      show sumF f (acc + (n.toNat : Int) * uIx i) (pF ns (i + 1)) = _
      rw [ih, show (n.toNat : Int) = n by omega, pSum, Int.add_assoc]
    · rw [if_neg c, List.nil_append, ih, pSum, show n = 0 by omega, Int.zero_mul, Int.zero_add]
theorem sum_wds {f : List UInt8 → Option Int} (hf : ∀ n i : Nat, n ≤ 100000000 → i < 3 → f (decD n ++ [unitB i]) = some ((n : Int) * uIx i)) {a : Int} (h : amt a) : sumF f 0 (wds a) = some a := by
  obtain ⟨h0, h1⟩ := h
  unfold wds
  by_cases hz : a = 0
  · subst hz
    rw [if_pos rfl]
    have e : [48, 100] = decD 0 ++ [unitB 2] := by rw [decD_small (by omega)]; rfl
    rw [e, sumF, hf 0 2 (by omega) (by omega)]; rfl
  · rw [if_neg hz, sum_pF hf _ _ _ (by simp [ptsA]) (by intro n hn; simp [ptsA] at hn; omega)]
    have : pSum (ptsA a) 0 = a / 240 * 240 + (a / 12 % 20 * 12 + (a % 12 * 1 + 0)) := rfl
    rw [this]
    congr 1; omega
theorem joinT_len : ∀ (ps : List (List UInt8)) (k : Nat), (∀ p ∈ ps, p.length ≤ k) → (joinT [32] ps).length ≤ ps.length * (k + 1)
  | [], k, _ => by simp [joinT]
  | [p], k, h => by have := h p (by simp); rw [joinT]; simp; omega
  | p :: q :: r, k, h => by
    have ih := joinT_len (q :: r) k (fun x hx => h x (by simp [hx]))
    have := h p (by simp)
    have e : joinT [32] (p :: q :: r) = p ++ 32 :: joinT [32] (q :: r) := by rw [joinT]; simp
    rw [e, List.length_append, List.length_cons]
    have e2 : (p :: q :: r).length * (k + 1) = (q :: r).length * (k + 1) + (k + 1) := by rw [List.length_cons, Nat.add_one_mul]
    omega
theorem pF_wlen : ∀ (ns : List Int) (i : Nat), (∀ n ∈ ns, 0 ≤ n ∧ n ≤ 999999) → ∀ p ∈ pF ns i, p.length ≤ 7
  | [], i, _ => by intro p hp; simp [pF] at hp
  | n :: ns, i, h => by
    intro p hp
    have hn := h n (by simp)
    unfold pF at hp
    rcases List.mem_append.1 hp with hp | hp
    · split at hp
      · rw [List.mem_singleton] at hp
        subst hp
        have := decD_lenk 5 (n := n.toNat) (by omega)
        simp only [List.length_append, List.length_cons, List.length_nil]; omega
      · cases hp
    · exact pF_wlen ns (i + 1) (fun x hx => h x (by simp [hx])) p hp
theorem amtT_30 {a : Int} (h : amt a) : (amtT a).length ≤ 30 := by
  obtain ⟨h0, h1⟩ := h
  unfold amtT
  by_cases hz : a = 0
  · rw [if_pos hz]; simp
  · rw [if_neg hz]
    have l1 := joinT_len (pF (ptsA a) 0) 7 (pF_wlen _ _ (by intro n hn; simp [ptsA] at hn; omega))
    have l2 := pF_len (ptsA a) 0
    have l3 : (ptsA a).length = 3 := rfl
    omega
theorem amR_of {a : Int} (h : amt a) : amR (amtT a) = some a := by
  unfold amR
  rw [if_pos (amtT_30 h), split_wds h.1, sum_wds (fun n i => wordI_dec) h]
  show (if amt a ∧ amtT a = amtT a then some a else none) = _
  rw [if_pos ⟨h, rfl⟩]
end Go.Proofs.YtmockobmiagbcaaDoor
