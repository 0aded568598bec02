/- What functions of the program answer: part Wood3. -/
import Derived.Test.YtnblibimbggheaaWood2
set_option linter.unusedVariables false
set_option linter.unusedSimpArgs false
set_option linter.unusedSectionVars false
namespace Go.Proofs.Ytnblibimbggheaa
open Go Go.Proofs.Ytnblibimbggheaa.VI
set_option maxHeartbeats 1600000
set_option maxRecDepth 20000
/-! A tampered row covers more -/
theorem wdt_lt {a b : Int} (h0 : 0 ≤ a) (h : a < b) (h5 : b ≤ 5) : wdt a < wdt b := by
  unfold wdt
  repeat' split
  all_goals omega
theorem nts_far {x : Nt} : ∀ {xs : List Nt}, ntsG (some x) xs = true → ∀ z ∈ xs, endN x < z.a
  | [], _, z, hz => by cases hz
  | y :: ys, h, z, hz => by
    have h : ((okN y && nxtOk (some x) y) && ntsG (some y) ys) = true := h
    rw [Bool.and_eq_true, Bool.and_eq_true] at h
    have h1 := (of_decide_eq_true (show decide (endN x < y.a ∧ y.k ≤ x.k) = true from h.1.2)).1
    rcases List.mem_cons.1 hz with rfl | hz
    · exact h1
    · have h2 := nts_far h.2 z hz
      have h3 := wdt_b y.k
      unfold endN at h2 h1 ⊢
      omega
theorem nts_mid {x : Nt} {r : List Nt} : ∀ {l : List Nt} {pv : Option Nt}, ntsG pv (l ++ x :: r) = true → (∀ z ∈ l, endN z < x.a) ∧ ∀ z ∈ r, endN x < z.a
  | [], pv, h => by
    have h : ((okN x && nxtOk pv x) && ntsG (some x) r) = true := h
    rw [Bool.and_eq_true] at h
    exact ⟨(fun z hz => nomatch hz), nts_far h.2⟩
  | y :: l, pv, h => by
    have h : ((okN y && nxtOk pv y) && ntsG (some y) (l ++ x :: r)) = true := h
    rw [Bool.and_eq_true] at h
    have ih := nts_mid h.2
    refine ⟨fun z hz => ?_, ih.2⟩
    rcases List.mem_cons.1 hz with rfl | hz
    · exact nts_far h.2 x (by simp)
    · exact ih.1 z hz
/-- A place that the new notch covers, and no other. -/
theorem cov_only {x : Nt} {l r : List Nt} {pv : Option Nt} (h : ntsG pv (l ++ x :: r) = true) {j : Nat} (hj : x.a ≤ (j : Int) ∧ (j : Int) < endN x) : ∀ z ∈ l ++ r, ¬ (z.a ≤ (j : Int) ∧ (j : Int) < endN z) := by
  have q := nts_mid h
  intro z hz hc
  rcases List.mem_append.1 hz with hz | hz
  · have := q.1 z hz; omega
  · have := q.2 z hz; omega
theorem cov_mem {xs : List Nt} {j : Nat} : cov xs j = true ↔ ∃ x ∈ xs, x.a ≤ (j : Int) ∧ (j : Int) < endN x := by
  unfold cov
  rw [List.any_eq_true]
  constructor
  · rintro ⟨x, h1, h2⟩; exact ⟨x, h1, of_decide_eq_true h2⟩
  · rintro ⟨x, h1, h2⟩; exact ⟨x, h1, decide_eq_true h2⟩
theorem okH_n {xs : List Nt} {g : List Int} (h : okH xs g = true) : ntsG none xs = true := by
  unfold okH at h
  rw [Bool.and_eq_true, Bool.and_eq_true] at h
  exact h.1.2
/-- What a tamper covers. -/
theorem tm_cov {p : Pr} (hp : okP p = true) {t : Tm} (h : (tmR p t).2 = 0) : (∀ j, cov p.xs j = true → cov (tmR p t).1.xs j = true) ∧ ∃ j, j < 256 ∧ cov (tmR p t).1.xs j = true ∧ cov p.xs j = false := by
  have ho := tm_ok h
  have hk : ∃ (l r : List Nt) (x : Nt), (tmR p t).1.xs = l ++ x :: r ∧ (p.xs = l ++ r ∨ ∃ y, p.xs = l ++ y :: r ∧ y.a = x.a ∧ 0 ≤ y.k ∧ y.k < x.k ∧ x.k ≤ 5) := by
    clear ho
    unfold tmR at h ⊢
    by_cases k1 : t.k = 1
    · rw [if_pos k1] at h ⊢
      by_cases i0 : t.ix = 0
      · rw [if_pos i0] at h ⊢
        unfold cnR at h ⊢
        by_cases c1 : (0 ≤ t.to ∧ t.to ≤ 5) ∧ 0 ≤ t.at_ ∧ t.at_ ≤ 200
        · rw [if_pos c1] at h ⊢
          by_cases c2 : okH (cutP p.xs t.to t.at_) p.g = true
          · rw [if_pos c2]
            exact ⟨_, _, _, rfl, .inl (List.take_append_drop _ _).symm⟩
          · rw [if_neg c2] at h; exact absurd h (by decide)
        · rw [if_neg c1] at h; exact absurd h (by decide)
      · rw [if_neg i0] at h; exact absurd h (by decide)
    · rw [if_neg k1] at h ⊢
      by_cases k2 : t.k = 2
      · rw [if_pos k2] at h ⊢
        unfold wiR at h ⊢
        by_cases c1 : t.at_ = 0 ∧ (0 ≤ t.to ∧ t.to ≤ 5) ∧ 0 ≤ t.ix ∧ t.ix < p.xs.length
        · rw [if_pos c1] at h ⊢
          by_cases c2 : t.to ≤ (p.xs.getD t.ix.toNat ⟨0, 0⟩).k
          · rw [if_pos c2] at h; exact absurd h (by decide)
          · rw [if_neg c2] at h ⊢
            by_cases c3 : okH (setN p.xs t.ix.toNat t.to) p.g = true
            · rw [if_pos c3]
              have hi : t.ix.toNat < p.xs.length := by omega
              have hk0 : 0 ≤ (p.xs[t.ix.toNat]'hi).k := by
                have := (okH_p hp).2.1 _ (List.getElem_mem hi); unfold okN at this; simp at this; omega
              rw [getD_at hi] at c2
              have e1 : p.xs = p.xs.take t.ix.toNat ++ (p.xs[t.ix.toNat]'hi) :: p.xs.drop (t.ix.toNat + 1) := by
                rw [← List.drop_eq_getElem_cons hi, List.take_append_drop]
              refine ⟨p.xs.take t.ix.toNat, p.xs.drop (t.ix.toNat + 1), ⟨t.to, (p.xs[t.ix.toNat]'hi).a⟩, ?_, .inr ⟨p.xs[t.ix.toNat]'hi, e1, rfl, hk0, Int.not_le.1 c2, c1.2.1.2⟩⟩
              show setN p.xs t.ix.toNat t.to = _
              unfold setN
              rw [getD_at hi, List.set_eq_take_append_cons_drop, if_pos hi]
            · rw [if_neg c3] at h; exact absurd h (by decide)
        · rw [if_neg c1] at h; exact absurd h (by decide)
      · rw [if_neg k2] at h; exact absurd h (by decide)
  obtain ⟨l, r, x, e, hk⟩ := hk
  have hn := okH_n ho
  have hx := (okH_p ho).2.1
  rw [e] at hn hx ⊢
  have ox := of_decide_eq_true (show decide ((0 ≤ x.k ∧ x.k ≤ 5) ∧ 0 ≤ x.a ∧ endN x ≤ 200) = true from hx x (by simp))
  have wb := wdt_b x.k
  rcases hk with e2 | ⟨y, e2, ya, yk0, yk, xk⟩
  · rw [e2]
    obtain ⟨j, hj⟩ : ∃ j : Nat, x.a = (j : Int) := ⟨x.a.toNat, by omega⟩
    have hjx : x.a ≤ (j : Int) ∧ (j : Int) < endN x := by unfold endN; omega
    refine ⟨fun j h => ?_, j, by unfold endN at ox; omega, cov_mem.2 ⟨x, by simp, hjx⟩, ?_⟩
    · obtain ⟨z, h1, h2⟩ := cov_mem.1 h
      refine cov_mem.2 ⟨z, ?_, h2⟩
      rcases List.mem_append.1 h1 with h1 | h1 <;> simp [h1]
    · cases hc : cov (l ++ r) j
      · rfl
      · obtain ⟨z, h1, h2⟩ := cov_mem.1 hc
        exact absurd h2 (cov_only hn hjx z h1)
  · rw [e2]
    have hw := wdt_lt yk0 yk xk
    obtain ⟨j, hj⟩ : ∃ j : Nat, x.a + wdt x.k - 1 = (j : Int) := ⟨(x.a + wdt x.k - 1).toNat, by omega⟩
    have hjx : x.a ≤ (j : Int) ∧ (j : Int) < endN x := by unfold endN; omega
    refine ⟨fun j h => ?_, j, by unfold endN at ox; omega, cov_mem.2 ⟨x, by simp, hjx⟩, ?_⟩
    · obtain ⟨z, h1, h2⟩ := cov_mem.1 h
      rcases List.mem_append.1 h1 with h1 | h1
      · exact cov_mem.2 ⟨z, by simp [h1], h2⟩
      · rcases List.mem_cons.1 h1 with rfl | h1
        · refine cov_mem.2 ⟨x, by simp, ?_⟩
          unfold endN at h2 ⊢; omega
        · exact cov_mem.2 ⟨z, by simp [h1], h2⟩
    · cases hc : cov (l ++ y :: r) j
      · rfl
      · obtain ⟨z, h1, h2⟩ := cov_mem.1 hc
        rcases List.mem_append.1 h1 with h1 | h1
        · exact absurd h2 (cov_only hn hjx z (by simp [h1]))
        · rcases List.mem_cons.1 h1 with rfl | h1
          · unfold endN at h2; omega
          · exact absurd h2 (cov_only hn hjx z (by simp [h1]))
theorem eqN_df {xs ys : List Nt} (h : xs ≠ ys) : eqN xs ys = false := by
  unfold eqN
  refine decide_eq_false fun e => h ?_
  unfold eqN.fl at e
  have : ∀ (xs ys : List Nt), (xs.map fun z => (z.k, z.a)) = (ys.map fun z => (z.k, z.a)) → xs = ys := by
    intro xs
    induction xs with
    | nil => intro ys h; cases ys with
      | nil => rfl
      | cons y ys => simp at h
    | cons x xs ih => intro ys h; cases ys with
      | nil => simp at h
      | cons y ys =>
        simp only [List.map_cons, List.cons.injEq, Prod.mk.injEq] at h
        obtain ⟨⟨h1, h2⟩, h3⟩ := h
        rw [ih ys h3]
        cases x; cases y; simp_all
  exact this _ _ e
/-- Who lies, when one of two has been tampered with. -/
theorem li_tm {x y : Hf} (ox : okF x = true) (oy : okF y = true) {p : Pr} (hp : okP p = true) {t : Tm} (h : (tmR p t).2 = 0) (ex : x.xs = p.xs) (ey : y.xs = (tmR p t).1.xs) : liR y x = 1 ∧ liR x y = 2 := by
  obtain ⟨c1, j, j0, c2, c3⟩ := tm_cov hp h
  have hne : p.xs ≠ (tmR p t).1.xs := fun e => by rw [e, c2] at c3; cases c3
  have n1 : eqN x.xs y.xs = false := eqN_df (by rw [ex, ey]; exact hne)
  have n2 : eqN y.xs x.xs = false := eqN_df (by rw [ex, ey]; exact Ne.symm hne)
  have w1 : inWl (wdF x) (wdF y) = true := inWl_iff.2 fun i _ hi => by
    rw [tb_wdF ox, ex] at hi
    rw [tb_wdF oy, ey]; exact c1 i hi
  have w2 : inWl (wdF y) (wdF x) = false := by
    cases hc : inWl (wdF y) (wdF x)
    · rfl
    · have := inWl_iff.1 hc j j0 (by rw [tb_wdF oy, ey]; exact c2)
      rw [tb_wdF ox, ex, c3] at this; cases this
  unfold liR
  rw [n1, n2, w1, w2]
  exact ⟨rfl, rfl⟩
end Go.Proofs.Ytnblibimbggheaa
