/- What functions of the program answer: part I2. -/
import Derived.Test.YtmockobmiagbcaaDoorI1
import Derived.Test.YtmockobmiagbcaaDoorB3
set_option linter.unusedVariables false
set_option linter.unusedSimpArgs false
set_option linter.unusedSectionVars false
namespace Go.Proofs.YtmockobmiagbcaaDoor
open Go Go.Proofs.YtmockobmiagbcaaDoor.VI
set_option maxHeartbeats 16000000
set_option maxRecDepth 20000
/-! Interest: the plain laws -/
theorem itr_third {g n D d : Int} (h : okR n D) (hg : 0 ≤ g) (hd : 0 ≤ d ∧ d ≤ 100) : 3 * itr g n d D ≤ g := by
  have h1 := itr_le h hd.1 hg
  have h2 : g * d ≤ g * 100 := Int.mul_le_mul_of_nonneg_left hd.2 hg
  have h3 : g * d / 365 ≤ g * 100 / 365 := Int.ediv_le_ediv (by omega) h2
  omega
theorem gN_pw {n D a : Int} (h : okR n D) (ha : 0 ≤ a ∧ a ≤ 100000000) : ∀ (k : Nat), (3 : Int) ^ k * gN n 100 D k a ≤ 4 ^ k * a
  | 0 => by
    have : gN n 100 D 0 a = a := rfl
    rw [this]; simp
  | k + 1 => by
    have ih := gN_pw h ha k
    have hg := gN_nn h (v := 100) (by omega) k a ha
    have h3 := itr_third h hg.1 (d := 100) (by omega)
    have hs : 3 * gN n 100 D (k + 1) a ≤ 4 * gN n 100 D k a := by
      rw [gN_succ k a ha.2]; split <;> omega
    have p3 : (0 : Int) ≤ 3 ^ k := Int.pow_nonneg (by omega)
    have h4 : (3 : Int) ^ k * (3 * gN n 100 D (k + 1) a) ≤ 3 ^ k * (4 * gN n 100 D k a) := Int.mul_le_mul_of_nonneg_left hs p3
    have e1 : (3 : Int) ^ (k + 1) * gN n 100 D (k + 1) a = 3 ^ k * (3 * gN n 100 D (k + 1) a) := by rw [Int.pow_succ, Int.mul_assoc]
    have e2 : (3 : Int) ^ k * (4 * gN n 100 D k a) = 4 * (3 ^ k * gN n 100 D k a) := by rw [Int.mul_left_comm]
    have e3 : (4 : Int) ^ (k + 1) * a = 4 * (4 ^ k * a) := by rw [Int.pow_succ, Int.mul_comm (4 ^ k) 4, Int.mul_assoc]
    rw [e1, e3]; rw [e2] at h4
    omega
theorem grw_small {n D a t : Int} (h : okR n D) (ha : 0 ≤ a ∧ a ≤ 60000) (ht : 0 ≤ t ∧ t ≤ 1500) : grw a n D t 100 ≤ 5000000 := by
  have h1 := grw_mono h (a := a) (by omega) (v := 100) (by omega) ht.1 (1500 - t).toNat
  rw [show t + ((1500 - t).toNat : Int) = 1500 by omega] at h1
  have h2 : grw a n D 1500 100 = gN n 100 D (14 + 1) a := grw_v (by omega) (by omega) (k := 14) (by omega)
  have h3 := gN_pw h (a := a) (by omega) 15
  have e3 : (3 : Int) ^ 15 = 14348907 := by decide
  have e4 : (4 : Int) ^ 15 = 1073741824 := by decide
  rw [e3, e4] at h3
  have h2' : grw a n D 1500 100 = gN n 100 D 15 a := h2
  omega
theorem itr_lo {a n d D : Int} (h : okR n D) : a * n * d < (itr a n d D + 1) * (D * 365) := by
  unfold itr
  have := h.1
  exact Int.lt_ediv_add_one_mul_self _ (by omega)
theorem itr_hi {a n d D : Int} (h : okR n D) : itr a n d D * (D * 365) ≤ a * n * d := by
  unfold itr
  have := h.1
  exact Int.ediv_mul_le _ (by omega)
theorem gN_up {n D a : Int} (h : okR n D) (ha : 0 ≤ a ∧ a ≤ 100000000) : ∀ (k : Nat), a ≤ gN n 100 D k a
  | 0 => by
    have : gN n 100 D 0 a = a := rfl
    omega
  | k + 1 => by
    have ih := gN_up h ha k
    have hg := gN_nn h (v := 100) (by omega) k a ha
    have h0 : 0 ≤ itr (gN n 100 D k a) n 100 D := by
      unfold itr
      have := h.1
      have := h.2
      exact Int.ediv_nonneg (Int.mul_nonneg (Int.mul_nonneg hg.1 (by omega)) (by omega)) (by omega)
    rw [gN_succ k a ha.2]; split <;> omega
theorem gN_lo {n D a : Int} (h : okR n D) (ha : 0 ≤ a ∧ a ≤ 100000000) : ∀ (k : Nat), gN n 100 D k a ≤ 100000000 → a * n * (100 * (k : Int)) ≤ (gN n 100 D k a - a + k) * (D * 365)
  | 0, _ => by
    have e : gN n 100 D 0 a = a := rfl
    rw [e]; simp
  | k + 1, hk => by
    rw [gN_succ k a ha.2] at hk ⊢
    by_cases c : 100000000 < gN n 100 D k a
    · rw [if_pos c] at hk; omega
    · rw [if_neg c] at hk ⊢
      have ih := gN_lo h ha k (by omega)
      have hu := gN_up h ha k
      have hl := itr_lo h (a := gN n 100 D k a) (d := 100)
      have hm : a * n * 100 ≤ gN n 100 D k a * n * 100 := Int.mul_le_mul_of_nonneg_right (Int.mul_le_mul_of_nonneg_right hu h.2.1) (by omega)
      generalize gN n 100 D k a = g at *
      have e1 : a * n * (100 * ((k + 1 : Nat) : Int)) = a * n * (100 * (k : Int)) + a * n * 100 := by
        rw [← Int.mul_add]; congr 1; try omega
      have e2 : (g + itr g n 100 D - a + ((k + 1 : Nat) : Int)) * (D * 365) = (g - a + k) * (D * 365) + (itr g n 100 D + 1) * (D * 365) := by
        rw [← Int.add_mul]; congr 1; omega
      rw [e1, e2]; omega
theorem grw_lo {n D a t : Int} (h : okR n D) (ha : 0 ≤ a ∧ a ≤ 60000) (ht : 0 ≤ t ∧ t ≤ 1500) : a + itr a n t D ≤ grw a n D t 100 + t / 100 + 1 := by
  obtain ⟨k, r, h1, h2, h3⟩ := split_t (v := 100) (t := t) (by omega) ht.1
  have hs := grw_small h ha ht
  have hkt : t / 100 = k := by omega
  rw [grw_qr (by omega) h1 ⟨h2, h3⟩] at hs ⊢
  have hg := gN_nn h (v := 100) (by omega) k a (by omega)
  by_cases c : 100000000 < gN n 100 D k a
  · rw [if_pos c] at hs; omega
  · rw [if_neg c] at hs ⊢
    have hlo := gN_lo h (a := a) (by omega) k (by omega)
    have hu := gN_up h (a := a) (by omega) k
    have hl := itr_lo h (a := gN n 100 D k a) (d := r)
    have hh := itr_hi h (a := a) (d := t)
    have hm : a * n * r ≤ gN n 100 D k a * n * r := Int.mul_le_mul_of_nonneg_right (Int.mul_le_mul_of_nonneg_right hu h.2.1) h2
    generalize gN n 100 D k a = g at *
    have e1 : a * n * t = a * n * (100 * (k : Int)) + a * n * r := by
      rw [← Int.mul_add]; congr 1; omega
    have e2 : (g + itr g n r D - a + k + 1) * (D * 365) = (g - a + k) * (D * 365) + (itr g n r D + 1) * (D * 365) := by
      rw [← Int.add_mul]; congr 1; omega
    have hle : itr a n t D * (D * 365) ≤ (g + itr g n r D - a + k + 1) * (D * 365) := by rw [e2]; omega
    have hM : 0 < D * 365 := by have := h.1; omega
    have := Int.le_of_mul_le_mul_right hle hM
    omega
theorem isF_ex {a n D v : Int} : ∃ F, IsF a n D v F := by
  open Classical in
  have key : ∀ k : Nat, k ≤ 40001 → (∃ F, IsF a n D v F) ∨ ∀ s : Int, 0 ≤ s → s < k → ¬ pd a n D v s := by
    intro k
    induction k with
    | zero => intro _; right; intro s h0 h1; omega
    | succ k ih =>
      intro hk
      rcases ih (by omega) with h | h
      · exact .inl h
      · by_cases c : pd a n D v (k : Int)
        · exact .inl ⟨k, by omega, fun _ => c, h⟩
        · refine .inr fun s h0 h1 => ?_
          by_cases e : s = (k : Int)
          · rw [e]; exact c
          · exact h s h0 (by omega)
  rcases key 40001 (Nat.le_refl _) with h | h
  · exact h
  · exact ⟨40001, by omega, fun hh => by omega, fun s h0 h1 => h s h0 (by omega)⟩
theorem dayF_is {a n D v : Int} : IsF a n D v (dayF a n D v) := by
  obtain ⟨F, hF⟩ := isF_ex (a := a) (n := n) (D := D) (v := v)
  rw [isF_eq hF]; exact hF
theorem grw_zero {a n D v : Int} (hv : 0 ≤ v) (ha : a ≤ 100000000) : grw a n D 0 v = a := by
  by_cases hv0 : v = 0
  · subst hv0; unfold grw; rw [if_pos rfl, itr_none]; omega
  · rw [grw_qr (t := 0) (r := 0) (k := 0) (by omega) (by omega) (by omega)]
    have : gN n v D 0 a = a := rfl
    rw [this, itr_none, if_neg (by omega)]; omega
theorem lnT_len {l : Ln} (h : okL l = true) : (lnT l).length ≤ 1000 := by
  obtain ⟨h1, h2, ⟨h3, h4⟩, h5⟩ := okL_p h
  have la := amtT_30 (a := l.A) h1
  have ld := decD_lenk 5 (n := l.d.toNat) (by omega)
  have ln := decD_lenk 5 (n := l.n.toNat) (by omega)
  have lD := decD_lenk 5 (n := l.D.toNat) (by omega)
  have lv := decD_lenk 5 (n := l.v.toNat) (by omega)
  unfold lnT
  split <;> simp only [List.length_append, List.length_cons, List.length_nil] <;> omega
theorem okL_dr {x : Ln} (h : drL x) : okL x = true := by
  obtain ⟨h1, h2, h3, h4, h5⟩ := h
  have e1 : 0 ≤ x.A ∧ x.A ≤ 100000000 := by omega
  have e2 : 0 ≤ x.d ∧ x.d ≤ 40000 := by omega
  have e3 : okR x.n x.D := ⟨by omega, by omega, by omega⟩
  have e4 : 0 ≤ x.v ∧ x.v ≤ 40000 := by omega
  unfold okL
  rw [decide_eq_true e1, decide_eq_true e2, decide_eq_true e3, decide_eq_true e4]; rfl
end Go.Proofs.YtmockobmiagbcaaDoor
