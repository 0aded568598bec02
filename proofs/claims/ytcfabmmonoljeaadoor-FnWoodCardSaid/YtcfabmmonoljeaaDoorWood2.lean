/- What functions of the program answer: parts Wood2 Wood3. -/
import Derived.Test.YtcfabmmonoljeaaDoorLeast
import Derived.Test.YtcfabmmonoljeaaDoorLies
/- What functions of the program answer: part Wood2. -/
set_option linter.unusedVariables false
set_option linter.unusedSimpArgs false
set_option linter.unusedSectionVars false
namespace Go.Proofs.YtcfabmmonoljeaaDoor
open Go Go.Proofs.YtcfabmmonoljeaaDoor.VI
set_option maxHeartbeats 1600000
set_option maxRecDepth 20000
/-! Wood, bit by bit -/
theorem bv_nat (x : BitVec 64) : BitVec.ofInt 64 ((x.toNat : Nat) : Int) = x := by
  rw [BitVec.ofInt_natCast, BitVec.ofNat_toNat, BitVec.setWidth_eq]
theorem bv_or (a b : Int) : BitVec.ofInt 64 (vor .u64 a b) = BitVec.ofInt 64 a ||| BitVec.ofInt 64 b := by
  show BitVec.ofInt 64 (IntKind.u64.wrap ((BitVec.ofInt 64 a ||| BitVec.ofInt 64 b).toNat)) = _
  generalize (BitVec.ofInt 64 a ||| BitVec.ofInt 64 b) = x
  have := x.isLt
  rw [IntWalk.u64_in _ (by omega), bv_nat]
theorem bv_pow {m : Nat} (h : m < 64) : BitVec.ofInt 64 (vshl .u64 1 (m : Int)) = BitVec.ofNat 64 (2 ^ m) := by
  have e : vshl .u64 1 (m : Int) = ((2 ^ m : Nat) : Int) := by
    show IntKind.u64.wrap (1 * 2 ^ (Nat.min ((m : Int)).toNat 64)) = _
    have h1 : Nat.min ((m : Int)).toNat 64 = m := by rw [Int.toNat_natCast]; exact Nat.min_eq_left (Nat.le_of_lt h)
    have h2 : (2 : Nat) ^ m ≤ 9223372036854775808 := Nat.le_trans (Nat.pow_le_pow_right (by decide) (show m ≤ 63 by omega)) (by decide)
    have h3 : (1 : Int) * 2 ^ m = ((2 ^ m : Nat) : Int) := by rw [Int.one_mul]; norm_cast
    rw [h1, h3]
    generalize (2 : Nat) ^ m = q at *
    exact IntWalk.u64_in _ (by omega)
  rw [e, BitVec.ofInt_natCast]
def tb (w : List Int) (j : Nat) : Bool := (BitVec.ofInt 64 (w.getD (j / 64) 0)).getLsbD (j % 64)
theorem tb_set {w : List Int} (hw : w.length = 4) {s : Nat} (hs : s < 256) {j : Nat} : tb (setB w (s : Int)) j = (decide (j = s) || tb w j) := by
  have e1 : ((s : Int) / 64).toNat = s / 64 := by omega
  have e2 : (s : Int) % 64 = ((s % 64 : Nat) : Int) := by omega
  unfold tb setB
  rw [e1, e2]
  by_cases hq : j / 64 = s / 64
  · rw [hq, List.getD_eq_getElem?_getD, List.getElem?_set_self (by omega)]
    simp only [Option.getD_some]
    rw [bv_or, BitVec.getLsbD_or, bv_pow (Nat.mod_lt _ (by decide)), BitVec.getLsbD_ofNat, Nat.testBit_two_pow]
    have : (decide (j % 64 < 64) && decide (s % 64 = j % 64)) = decide (j = s) := by
      by_cases h : j = s
      · subst h; simp [Nat.mod_lt]
      · have : ¬ s % 64 = j % 64 := by omega
        simp [h, this]
    rw [this, Bool.or_comm]
  · have hne : j ≠ s := fun h => hq (by rw [h])
    rw [List.getD_eq_getElem?_getD, List.getElem?_set_ne (Ne.symm hq), ← List.getD_eq_getElem?_getD]
    simp [hne]
theorem tb_wdN {j : Nat} : ∀ (n : Nat) (s : Nat) (w : List Int) (_ : w.length = 4) (_ : s + n ≤ 256), tb (wdN n (s : Int) w) j = (decide (s ≤ j ∧ j < s + n) || tb w j)
  | 0, s, w, hw, hs => by
    have : ¬ (s ≤ j ∧ j < s + 0) := by omega
    rw [decide_eq_false this, Bool.false_or]; rfl
  | n + 1, s, w, hw, hs => by
    show tb (wdN n ((s : Int) + 1) (setB w s)) j = _
    rw [show (s : Int) + 1 = ((s + 1 : Nat) : Int) by omega, tb_wdN n (s + 1) _ (by rw [setB_len]; exact hw) (by omega), tb_set hw (by omega), ← Bool.or_assoc]
    congr 1
    by_cases h1 : j = s
    · subst h1
      have h2 : j ≤ j ∧ j < j + (n + 1) := by omega
      simp [h2]
    · by_cases h2 : s + 1 ≤ j ∧ j < s + 1 + n
      · have h3 : s ≤ j ∧ j < s + (n + 1) := by omega
        simp [h2, h3]
      · have h3 : ¬ (s ≤ j ∧ j < s + (n + 1)) := by omega
        simp [h1, h2, h3]
/-- A place that a row covers. -/
def cov (xs : List Nt) (j : Nat) : Bool := xs.any fun x => decide (x.a ≤ (j : Int) ∧ (j : Int) < endN x)
theorem tb_wdL {j : Nat} : ∀ {xs : List Nt} {w : List Int} (_ : w.length = 4) (_ : ∀ x ∈ xs, okN x = true), tb (wdL xs w) j = (cov xs j || tb w j)
  | [], w, _, _ => by simp [wdL, cov]
  | x :: xs, w, hw, hx => by
    have h1 := hx x (by simp)
    unfold okN at h1
    have h1 := of_decide_eq_true h1
    have h2 := wdt_b x.k
    unfold endN at h1
    obtain ⟨s, hs⟩ : ∃ s : Nat, x.a = (s : Int) := ⟨x.a.toNat, by omega⟩
    obtain ⟨n, hn⟩ : ∃ n : Nat, wdt x.k = (n : Int) := ⟨(wdt x.k).toNat, by omega⟩
    show tb (wdL xs (wdN (wdt x.k).toNat x.a w)) j = _
    rw [tb_wdL (by rw [wdN_len]; exact hw) (fun y hy => hx y (by simp [hy])), hs, hn, Int.toNat_natCast, tb_wdN n s w hw (by omega)]
    have e : decide (x.a ≤ (j : Int) ∧ (j : Int) < endN x) = decide (s ≤ j ∧ j < s + n) := by
      unfold endN; rw [hs, hn]
      by_cases h : s ≤ j ∧ j < s + n
      · have h' : (s : Int) ≤ j ∧ (j : Int) < s + n := by omega
        simp [h, h']
      · have h' : ¬ ((s : Int) ≤ j ∧ (j : Int) < s + n) := by omega
        rw [decide_eq_false h, decide_eq_false h']
    unfold cov
    rw [List.any_cons, e, ← Bool.or_assoc, Bool.or_comm (xs.any _)]
theorem tb_zero {j : Nat} : tb [0, 0, 0, 0] j = false := by
  unfold tb
  have : ([0, 0, 0, 0] : List Int).getD (j / 64) 0 = 0 := by
    rw [List.getD_eq_getElem?_getD]
    match h : j / 64 with
    | 0 => rfl
    | 1 => rfl
    | 2 => rfl
    | 3 => rfl
    | n + 4 => rfl
  rw [this]
  simp
theorem tb_wdF {h : Hf} (ok : okF h = true) {j : Nat} : tb (wdF h) j = cov h.xs j := by
  unfold wdF
  rw [tb_wdL rfl (okH_p ok).2.1, tb_zero, Bool.or_false]
theorem andNot_0 {a b : Int} : (vandNot .u64 a b == 0) = true ↔ ∀ i, i < 64 → (BitVec.ofInt 64 a).getLsbD i = true → (BitVec.ofInt 64 b).getLsbD i = true := by
  have e : vandNot .u64 a b = ((BitVec.ofInt 64 a &&& ~~~ BitVec.ofInt 64 b).toNat : Int) := by
    show IntKind.u64.wrap ((BitVec.ofInt 64 a &&& ~~~ BitVec.ofInt 64 b).toNat) = _
    have := (BitVec.ofInt 64 a &&& ~~~ BitVec.ofInt 64 b).isLt
    exact IntWalk.u64_in _ (by omega)
  rw [e]
  generalize BitVec.ofInt 64 a = x
  generalize BitVec.ofInt 64 b = y
  constructor
  · intro h i hi hx
    have h0 : (x &&& ~~~ y).toNat = 0 := by simpa using h
    have h1 : x &&& ~~~ y = 0#64 := BitVec.eq_of_toNat_eq (by rw [h0]; rfl)
    have h2 := congrArg (fun v => v.getLsbD i) h1
    simp only [BitVec.getLsbD_and, BitVec.getLsbD_not, BitVec.getLsbD_zero, hx, hi, decide_true, Bool.true_and] at h2
    simpa using h2
  · intro h
    have h1 : x &&& ~~~ y = 0#64 := by
      apply BitVec.eq_of_getLsbD_eq
      intro i hi
      simp only [BitVec.getLsbD_and, BitVec.getLsbD_not, BitVec.getLsbD_zero, hi, decide_true, Bool.true_and]
      cases hx : x.getLsbD i
      · rfl
      · rw [h i hi hx]; rfl
    rw [h1]; rfl
theorem inWl_iff {w v : List Int} : inWl w v = true ↔ ∀ j, j < 256 → tb w j = true → tb v j = true := by
  unfold inWl
  simp only [Bool.and_eq_true, andNot_0]
  constructor
  · rintro ⟨⟨⟨h0, h1⟩, h2⟩, h3⟩ j hj ht
    unfold tb at ht ⊢
    have hm : j % 64 < 64 := Nat.mod_lt _ (by decide)
    have hd : j / 64 = 0 ∨ j / 64 = 1 ∨ j / 64 = 2 ∨ j / 64 = 3 := by omega
    rcases hd with hd | hd | hd | hd <;> rw [hd] at ht ⊢
    · exact h0 _ hm ht
    · exact h1 _ hm ht
    · exact h2 _ hm ht
    · exact h3 _ hm ht
  · intro h
    have key : ∀ k, k < 4 → ∀ i, i < 64 → (BitVec.ofInt 64 (w.getD k 0)).getLsbD i = true → (BitVec.ofInt 64 (v.getD k 0)).getLsbD i = true := fun k hk i hi hx => by
      have := h (k * 64 + i) (by omega)
      unfold tb at this
      rw [show (k * 64 + i) / 64 = k by omega, show (k * 64 + i) % 64 = i by omega] at this
      exact this hx
    exact ⟨⟨⟨key 0 (by omega), key 1 (by omega)⟩, key 2 (by omega)⟩, key 3 (by omega)⟩
end Go.Proofs.YtcfabmmonoljeaaDoor

/- What functions of the program answer: part Wood3. -/
set_option linter.unusedVariables false
set_option linter.unusedSimpArgs false
set_option linter.unusedSectionVars false
namespace Go.Proofs.YtcfabmmonoljeaaDoor
open Go Go.Proofs.YtcfabmmonoljeaaDoor.VI
set_option maxHeartbeats 1600000
set_option maxRecDepth 20000
/-! A tampered row covers more -/
theorem wdt_lt {a b : Int} (h0 : 0 ≤ a) (h : a < b) (h5 : b ≤ 5) : wdt a < wdt b := by
  unfold wdt
  repeat' split
  all_goals omega
theorem nts_far {x : Nt} : ∀ {xs : List Nt}, ntsG (some x) xs = true → ∀ z ∈ xs, endN x < z.a
  | [], _, z, hz => by cases hz
  | y :: ys, h, z, hz => by
    have h : ((okN y && nxtOk (some x) y) && ntsG (some y) ys) = true := h
    rw [Bool.and_eq_true, Bool.and_eq_true] at h
    have h1 := (of_decide_eq_true (show decide (endN x < y.a ∧ y.k ≤ x.k) = true from h.1.2)).1
    rcases List.mem_cons.1 hz with rfl | hz
    · exact h1
    · have h2 := nts_far h.2 z hz
      have h3 := wdt_b y.k
      unfold endN at h2 h1 ⊢
      omega
theorem nts_mid {x : Nt} {r : List Nt} : ∀ {l : List Nt} {pv : Option Nt}, ntsG pv (l ++ x :: r) = true → (∀ z ∈ l, endN z < x.a) ∧ ∀ z ∈ r, endN x < z.a
  | [], pv, h => by
    have h : ((okN x && nxtOk pv x) && ntsG (some x) r) = true := h
    rw [Bool.and_eq_true] at h
    exact ⟨(fun z hz => nomatch hz), nts_far h.2⟩
  | y :: l, pv, h => by
    have h : ((okN y && nxtOk pv y) && ntsG (some y) (l ++ x :: r)) = true := h
    rw [Bool.and_eq_true] at h
    have ih := nts_mid h.2
    refine ⟨fun z hz => ?_, ih.2⟩
    rcases List.mem_cons.1 hz with rfl | hz
    · exact nts_far h.2 x (by simp)
    · exact ih.1 z hz
/-- A place that the new notch covers, and no other. -/
theorem cov_only {x : Nt} {l r : List Nt} {pv : Option Nt} (h : ntsG pv (l ++ x :: r) = true) {j : Nat} (hj : x.a ≤ (j : Int) ∧ (j : Int) < endN x) : ∀ z ∈ l ++ r, ¬ (z.a ≤ (j : Int) ∧ (j : Int) < endN z) := by
  have q := nts_mid h
  intro z hz hc
  rcases List.mem_append.1 hz with hz | hz
  · have := q.1 z hz; omega
  · have := q.2 z hz; omega
theorem cov_mem {xs : List Nt} {j : Nat} : cov xs j = true ↔ ∃ x ∈ xs, x.a ≤ (j : Int) ∧ (j : Int) < endN x := by
  unfold cov
  rw [List.any_eq_true]
  constructor
  · rintro ⟨x, h1, h2⟩; exact ⟨x, h1, of_decide_eq_true h2⟩
  · rintro ⟨x, h1, h2⟩; exact ⟨x, h1, decide_eq_true h2⟩
theorem okH_n {xs : List Nt} {g : List Int} (h : okH xs g = true) : ntsG none xs = true := by
  unfold okH at h
  rw [Bool.and_eq_true, Bool.and_eq_true] at h
  exact h.1.2
/-- What a tamper covers. -/
theorem tm_cov {p : Pr} (hp : okP p = true) {t : Tm} (h : (tmR p t).2 = 0) : (∀ j, cov p.xs j = true → cov (tmR p t).1.xs j = true) ∧ ∃ j, j < 256 ∧ cov (tmR p t).1.xs j = true ∧ cov p.xs j = false := by
  have ho := tm_ok h
  have hk : ∃ (l r : List Nt) (x : Nt), (tmR p t).1.xs = l ++ x :: r ∧ (p.xs = l ++ r ∨ ∃ y, p.xs = l ++ y :: r ∧ y.a = x.a ∧ 0 ≤ y.k ∧ y.k < x.k ∧ x.k ≤ 5) := by
    clear ho
    unfold tmR at h ⊢
    by_cases k1 : t.k = 1
    · rw [if_pos k1] at h ⊢
      by_cases i0 : t.ix = 0
      · rw [if_pos i0] at h ⊢
        unfold cnR at h ⊢
        by_cases c1 : (0 ≤ t.to ∧ t.to ≤ 5) ∧ 0 ≤ t.at_ ∧ t.at_ ≤ 200
        · rw [if_pos c1] at h ⊢
          by_cases c2 : okH (cutP p.xs t.to t.at_) p.g = true
          · rw [if_pos c2]
            exact ⟨_, _, _, rfl, .inl (List.take_append_drop _ _).symm⟩
          · rw [if_neg c2] at h; exact absurd h (by decide)
        · rw [if_neg c1] at h; exact absurd h (by decide)
      · rw [if_neg i0] at h; exact absurd h (by decide)
    · rw [if_neg k1] at h ⊢
      by_cases k2 : t.k = 2
      · rw [if_pos k2] at h ⊢
        unfold wiR at h ⊢
        by_cases c1 : t.at_ = 0 ∧ (0 ≤ t.to ∧ t.to ≤ 5) ∧ 0 ≤ t.ix ∧ t.ix < p.xs.length
        · rw [if_pos c1] at h ⊢
          by_cases c2 : t.to ≤ (p.xs.getD t.ix.toNat ⟨0, 0⟩).k
          · rw [if_pos c2] at h; exact absurd h (by decide)
          · rw [if_neg c2] at h ⊢
            by_cases c3 : okH (setN p.xs t.ix.toNat t.to) p.g = true
            · rw [if_pos c3]
              have hi : t.ix.toNat < p.xs.length := by omega
              have hk0 : 0 ≤ (p.xs[t.ix.toNat]'hi).k := by
                have := (okH_p hp).2.1 _ (List.getElem_mem hi); unfold okN at this; simp at this; omega
              rw [getD_at hi] at c2
              have e1 : p.xs = p.xs.take t.ix.toNat ++ (p.xs[t.ix.toNat]'hi) :: p.xs.drop (t.ix.toNat + 1) := by
                rw [← List.drop_eq_getElem_cons hi, List.take_append_drop]
              refine ⟨p.xs.take t.ix.toNat, p.xs.drop (t.ix.toNat + 1), ⟨t.to, (p.xs[t.ix.toNat]'hi).a⟩, ?_, .inr ⟨p.xs[t.ix.toNat]'hi, e1, rfl, hk0, Int.not_le.1 c2, c1.2.1.2⟩⟩
              show setN p.xs t.ix.toNat t.to = _
              unfold setN
              rw [getD_at hi, List.set_eq_take_append_cons_drop, if_pos hi]
            · rw [if_neg c3] at h; exact absurd h (by decide)
        · rw [if_neg c1] at h; exact absurd h (by decide)
      · rw [if_neg k2] at h; exact absurd h (by decide)
  obtain ⟨l, r, x, e, hk⟩ := hk
  have hn := okH_n ho
  have hx := (okH_p ho).2.1
  rw [e] at hn hx ⊢
  have ox := of_decide_eq_true (show decide ((0 ≤ x.k ∧ x.k ≤ 5) ∧ 0 ≤ x.a ∧ endN x ≤ 200) = true from hx x (by simp))
  have wb := wdt_b x.k
  rcases hk with e2 | ⟨y, e2, ya, yk0, yk, xk⟩
  · rw [e2]
    obtain ⟨j, hj⟩ : ∃ j : Nat, x.a = (j : Int) := ⟨x.a.toNat, by omega⟩
    have hjx : x.a ≤ (j : Int) ∧ (j : Int) < endN x := by unfold endN; omega
    refine ⟨fun j h => ?_, j, by unfold endN at ox; omega, cov_mem.2 ⟨x, by simp, hjx⟩, ?_⟩
    · obtain ⟨z, h1, h2⟩ := cov_mem.1 h
      refine cov_mem.2 ⟨z, ?_, h2⟩
      rcases List.mem_append.1 h1 with h1 | h1 <;> simp [h1]
    · cases hc : cov (l ++ r) j
      · rfl
      · obtain ⟨z, h1, h2⟩ := cov_mem.1 hc
        exact absurd h2 (cov_only hn hjx z h1)
  · rw [e2]
    have hw := wdt_lt yk0 yk xk
    obtain ⟨j, hj⟩ : ∃ j : Nat, x.a + wdt x.k - 1 = (j : Int) := ⟨(x.a + wdt x.k - 1).toNat, by omega⟩
    have hjx : x.a ≤ (j : Int) ∧ (j : Int) < endN x := by unfold endN; omega
    refine ⟨fun j h => ?_, j, by unfold endN at ox; omega, cov_mem.2 ⟨x, by simp, hjx⟩, ?_⟩
    · obtain ⟨z, h1, h2⟩ := cov_mem.1 h
      rcases List.mem_append.1 h1 with h1 | h1
      · exact cov_mem.2 ⟨z, by simp [h1], h2⟩
      · rcases List.mem_cons.1 h1 with rfl | h1
        · refine cov_mem.2 ⟨x, by simp, ?_⟩
          unfold endN at h2 ⊢; omega
        · exact cov_mem.2 ⟨z, by simp [h1], h2⟩
    · cases hc : cov (l ++ y :: r) j
      · rfl
      · obtain ⟨z, h1, h2⟩ := cov_mem.1 hc
        rcases List.mem_append.1 h1 with h1 | h1
        · exact absurd h2 (cov_only hn hjx z (by simp [h1]))
        · rcases List.mem_cons.1 h1 with rfl | h1
          · unfold endN at h2; omega
          · exact absurd h2 (cov_only hn hjx z (by simp [h1]))
end Go.Proofs.YtcfabmmonoljeaaDoor
