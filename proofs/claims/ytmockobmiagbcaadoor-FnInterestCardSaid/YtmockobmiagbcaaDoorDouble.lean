/- What functions of the program answer: part Double. -/
import Derived.Test.YtmockobmiagbcaaDoorWorth
set_option linter.unusedVariables false
set_option linter.unusedSimpArgs false
set_option linter.unusedSectionVars false
namespace Go.Proofs.YtmockobmiagbcaaDoor
open Go Go.Proofs.YtmockobmiagbcaaDoor.VI
set_option maxHeartbeats 8000000
/-! When an amount has become twice as much: the plain law -/
theorem itr_days {a n D s t : Int} (h : okR n D) (ha : 0 ≤ a) (hst : s ≤ t) : itr a n s D ≤ itr a n t D := by
  obtain ⟨⟨D0, D1⟩, n0, n1⟩ := h
  unfold itr
  apply Int.ediv_le_ediv (by omega)
  exact Int.mul_le_mul_of_nonneg_left hst (Int.mul_nonneg ha n0)
theorem itr_none {a n D : Int} : itr a n 0 D = 0 := by unfold itr; simp
theorem gN_succ {n v D : Int} : ∀ (k : Nat) (a : Int), a ≤ 100000000 → gN n v D (k + 1) a = if 100000000 < gN n v D k a then gN n v D k a else gN n v D k a + itr (gN n v D k a) n v D
  | 0, a, ha => by
    have e : gN n v D (0 + 1) a = if 100000000 < a + itr a n v D then a + itr a n v D else a + itr a n v D := rfl
    have e0 : gN n v D 0 a = a := rfl
    rw [e, e0, if_neg (show ¬ 100000000 < a by omega)]
    split <;> rfl
  | k + 1, a, ha => by
    have e : ∀ j, gN n v D (j + 1) a = if 100000000 < a + itr a n v D then a + itr a n v D else gN n v D j (a + itr a n v D) := fun j => rfl
    rw [e (k + 1), e k]
    by_cases h : 100000000 < a + itr a n v D
    · rw [if_pos h, if_pos h, if_pos h]
    · rw [if_neg h, if_neg h]
      exact gN_succ k _ (by omega)
theorem grw_qr {a n D v t r : Int} {k : Nat} (hv : 1 ≤ v) (ht : t = k * v + r) (hr : 0 ≤ r ∧ r < v) : grw a n D t v = if 100000000 < gN n v D k a then gN n v D k a else gN n v D k a + itr (gN n v D k a) n r D := by
  have hq : t / v = k := by
    rw [ht, Int.add_comm, Int.add_mul_ediv_right _ _ (by omega), Int.ediv_eq_zero_of_lt hr.1 hr.2]; omega
  have hm : t % v = r := by
    rw [ht, Int.add_comm, Int.add_mul_emod_self_right, Int.emod_eq_of_lt hr.1 hr.2]
  have hq' : (t / v).toNat = k := by rw [hq]; omega
  unfold grw
  rw [if_neg (by omega), hm, hq']
theorem grw_v {a n D v t : Int} {k : Nat} (hv : 1 ≤ v) (ha : a ≤ 100000000) (ht : t = k * v + v) : grw a n D t v = gN n v D (k + 1) a := by
  have h := grw_qr (a := a) (n := n) (D := D) (t := t) (r := 0) (k := k + 1) hv (by rw [ht, Int.natCast_add, Int.add_mul]; omega) ⟨by omega, by omega⟩
  rw [h, itr_none]
  split <;> omega
theorem split_t {v t : Int} (hv : 1 ≤ v) (ht : 0 ≤ t) : ∃ (k : Nat) (r : Int), t = k * v + r ∧ 0 ≤ r ∧ r < v := by
  refine ⟨(t / v).toNat, t % v, ?_, Int.emod_nonneg _ (by omega), Int.emod_lt_of_pos _ (by omega)⟩
  rw [Int.toNat_of_nonneg (Int.ediv_nonneg ht (by omega))]
  have := Int.mul_ediv_add_emod t v
  rw [Int.mul_comm] at this; omega
theorem grw_step {a n D v t : Int} (h : okR n D) (ha : 0 ≤ a ∧ a ≤ 100000000) (hv : 0 ≤ v ∧ v ≤ 40000) (ht : 0 ≤ t) : grw a n D t v ≤ grw a n D (t + 1) v := by
  by_cases hv0 : v = 0
  · subst hv0
    have := itr_days (s := t) (t := t + 1) h ha.1 (by omega)
    unfold grw; rw [if_pos rfl, if_pos rfl]; omega
  · obtain ⟨k, r, h1, h2, h3⟩ := split_t (v := v) (by omega) ht
    have hg := gN_nn h hv (v := v) k a ha
    rw [grw_qr (by omega) h1 ⟨h2, h3⟩]
    by_cases hr : r + 1 < v
    · rw [grw_qr (t := t + 1) (r := r + 1) (k := k) (by omega) (by omega) ⟨by omega, hr⟩]
      split
      · omega
      · have := itr_days (s := r) (t := r + 1) h hg.1 (by omega); omega
    · rw [grw_v (t := t + 1) (k := k) (by omega) ha.2 (by omega), gN_succ k a ha.2]
      split
      · omega
      · have := itr_days (s := r) (t := v) h hg.1 (by omega); omega
theorem grw_mono {a n D v : Int} (h : okR n D) (ha : 0 ≤ a ∧ a ≤ 100000000) (hv : 0 ≤ v ∧ v ≤ 40000) {s : Int} (hs : 0 ≤ s) : ∀ (m : Nat), grw a n D s v ≤ grw a n D (s + m) v
  | 0 => by simp
  | m + 1 => by
    have h1 := grw_mono h ha hv hs m
    have h2 := grw_step h ha hv (t := s + m) (by omega)
    rw [show s + ((m + 1 : Nat) : Int) = s + m + 1 from by omega]
    omega
theorem grw_nn {a n D v t : Int} (h : okR n D) (ha : 0 ≤ a ∧ a ≤ 100000000) (hv : 0 ≤ v ∧ v ≤ 40000) (ht : 0 ≤ t) : a ≤ grw a n D t v := by
  have := grw_mono h ha hv (s := 0) (by omega) t.toNat
  have e : (0 : Int) + (t.toNat : Int) = t := by omega
  rw [e] at this
  have e0 : grw a n D 0 v = a := by
    by_cases hv0 : v = 0
    · subst hv0; unfold grw; rw [if_pos rfl, itr_none]; omega
    · rw [grw_qr (t := 0) (r := 0) (k := 0) (by omega) (by omega) (by omega)]
      have : gN n v D 0 a = a := rfl
      rw [this, itr_none, if_neg (by omega)]; omega
  omega
/-- It is too much, or twice as much. -/
def pd (a n D v t : Int) : Prop := 100000000 < grw a n D t v ∨ 2 * a ≤ grw a n D t v
theorem pd_mono {a n D v s t : Int} (h : okR n D) (ha : 0 ≤ a ∧ a ≤ 100000000) (hv : 0 ≤ v ∧ v ≤ 40000) (hs : 0 ≤ s) (hst : s ≤ t) (hp : pd a n D v s) : pd a n D v t := by
  have := grw_mono h ha hv hs (t - s).toNat
  rw [show s + ((t - s).toNat : Int) = t from by omega] at this
  unfold pd at *; omega
def IsF (a n D v F : Int) : Prop := (0 ≤ F ∧ F ≤ 40001) ∧ (F ≤ 40000 → pd a n D v F) ∧ ∀ s, 0 ≤ s → s < F → ¬ pd a n D v s
noncomputable def dayF (a n D v : Int) : Int := open Classical in if h : ∃ F, IsF a n D v F then h.choose else 0
theorem isF_eq {a n D v F : Int} (hF : IsF a n D v F) : dayF a n D v = F := by
  have hex : ∃ F, IsF a n D v F := ⟨F, hF⟩
  have hc := hex.choose_spec
  unfold dayF
  rw [dif_pos hex]
  generalize hex.choose = c at *
  obtain ⟨⟨c0, c1⟩, c2, c3⟩ := hc
  obtain ⟨⟨w0, w1⟩, w2, w3⟩ := hF
  rcases Int.lt_trichotomy c F with hlt | heq | hgt
  · exact absurd (c2 (by omega)) (w3 c c0 hlt)
  · exact heq
  · exact absurd (w2 (by omega)) (c3 F w0 hgt)
end Go.Proofs.YtmockobmiagbcaaDoor
