/- What functions of the program answer: part R2. -/
import Derived.Test.YtmockobmiagbcaaDoorL1
import Derived.Test.YtmockobmiagbcaaDoorR1
set_option linter.unusedVariables false
set_option linter.unusedSimpArgs false
set_option linter.unusedSectionVars false
namespace Go.Proofs.YtmockobmiagbcaaDoor
open Go Go.Proofs.YtmockobmiagbcaaDoor.VI
set_option maxHeartbeats 16000000
set_option maxRecDepth 20000
/-! Plain laws of what is read -/
theorem decD_small {n : Nat} (h : n < 10) : decD n = [UInt8.ofNat (48 + n)] := by rw [decD, dif_pos h]
theorem decD_big {n : Nat} (h : ¬ n < 10) : decD n = decD (n / 10) ++ [UInt8.ofNat (48 + n % 10)] := by rw [decD, dif_neg h]
theorem dig_nat {d : Nat} (h : d < 10) : (UInt8.ofNat (48 + d)).toNat = 48 + d := by simp; omega
theorem dig_is {d : Nat} (h : d < 10) : isDig (UInt8.ofNat (48 + d)) = true := by unfold isDig; rw [dig_nat h]; simp; omega
theorem valN_app {b : UInt8} : ∀ {s : List UInt8} {n : Nat}, valN n (s ++ [b]) = 10 * valN n s + (b.toNat - 48)
  | [], n => by rw [List.nil_append, valN_cons, valN_nil, valN_nil, stepV_eq]
  | c :: s, n => by rw [List.cons_append, valN_cons, valN_app, valN_cons]
theorem decD_digs (n : Nat) : digs (decD n) = true := by
  induction n using Nat.strongRecOn with
  | _ n ih =>
    by_cases h : n < 10
    · rw [decD_small h]; unfold digs; rw [List.all_cons, dig_is h]; rfl
    · rw [decD_big h]
      have := ih (n / 10) (by omega)
      unfold digs at this ⊢
      rw [List.all_append, this, List.all_cons, dig_is (show n % 10 < 10 by omega)]; rfl
theorem decD_val (n : Nat) : valN 0 (decD n) = n := by
  induction n using Nat.strongRecOn with
  | _ n ih =>
    by_cases h : n < 10
    · rw [decD_small h]; rw [valN_cons, valN_nil, stepV_eq, dig_nat h]; omega
    · rw [decD_big h, valN_app, ih (n / 10) (by omega), dig_nat (show n % 10 < 10 by omega)]; omega
theorem decD_head (n : Nat) (h : 0 < n) : (decD n).head? ≠ some 48 := by
  induction n using Nat.strongRecOn with
  | _ n ih =>
    by_cases h1 : n < 10
    · rw [decD_small h1]
      intro e
      simp only [List.head?_cons, Option.some.injEq] at e
      have := congrArg UInt8.toNat e
      rw [dig_nat h1] at this
      have e48 : (48 : UInt8).toNat = 48 := rfl
      omega
    · rw [decD_big h1]
      have := ih (n / 10) (by omega) (by omega)
      cases hd : decD (n / 10) with
      | nil => exact absurd hd (decD_ne _)
      | cons b l => rw [hd] at this; exact this
theorem decD_lenk : ∀ (k : Nat) {n : Nat}, n < 10 ^ (k + 1) → (decD n).length ≤ k + 1
  | 0, n, h => by rw [decD_small (by simpa using h)]; simp
  | k + 1, n, h => by
    by_cases h1 : n < 10
    · rw [decD_small h1]; simp
    · rw [decD_big h1, List.length_append]
      have hp : (10 : Nat) ^ (k + 1 + 1) = 10 ^ (k + 1) * 10 := Nat.pow_succ ..
      have := decD_lenk k (n := n / 10) (by omega)
      simp only [List.length_cons, List.length_nil]; omega
theorem numR_dec {lim n : Nat} (hl : 9 ≤ lim) (h : n < 1000000000) : numR lim (decD n) = (n, true) := by
  unfold numR
  have h3 := decD_lenk 8 (n := n) (by simpa using h)
  rw [if_neg, if_pos (decD_digs n), decD_val]
  rintro (e | e | ⟨e, e2⟩)
  · exact decD_ne n e
  · omega
  · by_cases h0 : 0 < n
    · exact decD_head n h0 e
    · have : n = 0 := by omega
      subst this
      rw [decD_small (by omega)] at e2
      simp at e2
theorem valN_pos {s : List UInt8} {b : UInt8} (hb : isDig b = true) (h : b ≠ 48) : 0 < valN 0 (b :: s) := by
  have h1 : 0 < b.toNat - 48 := by
    unfold isDig at hb
    simp only [decide_eq_true_eq] at hb
    have : b.toNat ≠ 48 := fun e => h (UInt8.toNat_inj.1 (by rw [e]; rfl))
    omega
  have : ∀ (s : List UInt8) (n : Nat), 0 < n → 0 < valN n s := by
    intro s
    induction s with
    | nil => intro n h; rw [valN_nil]; exact h
    | cons c s ih => intro n h; rw [valN_cons]; exact ih _ (by rw [stepV_eq]; omega)
  rw [valN_cons]
  exact this s _ (by rw [stepV_eq]; omega)
theorem dec_of_val : ∀ (k : Nat) (s : List UInt8), s.length = k → s ≠ [] → digs s = true → (s.head? = some 48 → s.length ≤ 1) → decD (valN 0 s) = s := by
  intro k
  induction k with
  | zero => intro s hl hne; exact absurd (List.length_eq_zero_iff.1 hl) hne
  | succ k ih =>
    intro s hl hne hd hh
    have hs : s = s.dropLast ++ [s.getLast hne] := (List.dropLast_concat_getLast hne).symm
    generalize s.getLast hne = b at hs
    generalize s.dropLast = r at hs
    subst hs
    rw [valN_app]
    unfold digs at hd
    rw [List.all_append] at hd
    simp only [List.all_cons, List.all_nil, Bool.and_true, Bool.and_eq_true] at hd
    obtain ⟨hr, hb⟩ := hd
    have hb2 := hb
    unfold isDig at hb2
    simp only [decide_eq_true_eq] at hb2
    have hb3 : UInt8.ofNat (48 + (b.toNat - 48)) = b := UInt8.toNat_inj.1 (by rw [dig_nat (by omega)]; omega)
    cases r with
    | nil =>
      rw [valN_nil, decD_small (by omega), show 10 * 0 + (b.toNat - 48) = b.toNat - 48 by omega, hb3]; rfl
    | cons c r =>
      have hc : c ≠ 48 := fun e => by
        have := hh (by rw [e]; rfl)
        simp at this
      have hcd : isDig c = true := by simp only [List.all_cons, Bool.and_eq_true] at hr; exact hr.1
      have hp := valN_pos (s := r) hcd hc
      rw [decD_big (by omega), show (10 * valN 0 (c :: r) + (b.toNat - 48)) / 10 = valN 0 (c :: r) by omega, show (10 * valN 0 (c :: r) + (b.toNat - 48)) % 10 = b.toNat - 48 by omega, hb3,
        ih (c :: r) (by simpa using hl) (by simp) hr (fun e => by simp at e; exact absurd e hc)]
theorem numR_true {lim : Nat} {s : List UInt8} (h : (numR lim s).2 = true) : decD (numR lim s).1 = s := by
  unfold numR at h ⊢
  by_cases h1 : s = [] ∨ lim < s.length ∨ (s.head? = some 48 ∧ 1 < s.length)
  · rw [if_pos h1] at h; cases h
  · rw [if_neg h1] at h ⊢
    by_cases h2 : digs s = true
    · rw [if_pos h2] at h ⊢
      exact dec_of_val _ s rfl (fun e => h1 (.inl e)) h2 (fun e => by
        rcases Nat.lt_or_ge 1 s.length with h3 | h3
        · exact absurd (.inr (.inr ⟨e, h3⟩)) h1
        · exact h3)
    · rw [if_neg h2] at h; cases h
/-! Parts -/
theorem split_app {c : UInt8} {l : List UInt8} : ∀ {a : List UInt8}, (∀ b ∈ a, b ≠ c) → splitL c (a ++ c :: l) = a :: splitL c l
  | [], _ => by show splitL c (c :: l) = _; rw [splitL, if_pos rfl]
  | b :: a, h => by
    show splitL c (b :: (a ++ c :: l)) = _
    rw [splitL, if_neg (h b (by simp)), split_app (fun x hx => h x (by simp [hx]))]
theorem split_one {c : UInt8} : ∀ {a : List UInt8}, (∀ b ∈ a, b ≠ c) → splitL c a = [a]
  | [], _ => rfl
  | b :: a, h => by rw [splitL, if_neg (h b (by simp)), split_one (fun x hx => h x (by simp [hx]))]
theorem decD_no (n : Nat) : ∀ b ∈ decD n, b ≠ 32 := by
  intro b hb e
  have h := List.all_eq_true.1 (decD_digs n) b hb
  subst e
  exact absurd h (by decide)
end Go.Proofs.YtmockobmiagbcaaDoor
