/- What functions of the program answer: parts R2 R3 R4 R5 R6. -/
import Derived.Test.YtcfabmmonoljeaaDoorCount
import Derived.Test.YtcfabmmonoljeaaDoorR1
import Derived.Test.YtcfabmmonoljeaaDoorTam3
/- What functions of the program answer: part R2. -/
set_option linter.unusedVariables false
set_option linter.unusedSimpArgs false
set_option linter.unusedSectionVars false
namespace Go.Proofs.YtcfabmmonoljeaaDoor
open Go Go.Proofs.YtcfabmmonoljeaaDoor.VI
set_option maxHeartbeats 16000000
set_option maxRecDepth 20000
/-! Plain laws of what is read -/
theorem decD_small {n : Nat} (h : n < 10) : decD n = [UInt8.ofNat (48 + n)] := by rw [decD, dif_pos h]
theorem decD_big {n : Nat} (h : ¬ n < 10) : decD n = decD (n / 10) ++ [UInt8.ofNat (48 + n % 10)] := by rw [decD, dif_neg h]
theorem dig_nat {d : Nat} (h : d < 10) : (UInt8.ofNat (48 + d)).toNat = 48 + d := by simp; omega
theorem dig_is {d : Nat} (h : d < 10) : isDig (UInt8.ofNat (48 + d)) = true := by unfold isDig; rw [dig_nat h]; simp; omega
theorem valN_app {b : UInt8} : ∀ {s : List UInt8} {n : Nat}, valN n (s ++ [b]) = 10 * valN n s + (b.toNat - 48)
  | [], n => by rw [List.nil_append, valN_cons, valN_nil, valN_nil, stepV_eq]
  | c :: s, n => by rw [List.cons_append, valN_cons, valN_app, valN_cons]
theorem decD_digs (n : Nat) : digs (decD n) = true := by
  induction n using Nat.strongRecOn with
  | _ n ih =>
    by_cases h : n < 10
    · rw [decD_small h]; unfold digs; rw [List.all_cons, dig_is h]; rfl
    · rw [decD_big h]
      have := ih (n / 10) (by omega)
      unfold digs at this ⊢
      rw [List.all_append, this, List.all_cons, dig_is (show n % 10 < 10 by omega)]; rfl
theorem decD_val (n : Nat) : valN 0 (decD n) = n := by
  induction n using Nat.strongRecOn with
  | _ n ih =>
    by_cases h : n < 10
    · rw [decD_small h]; rw [valN_cons, valN_nil, stepV_eq, dig_nat h]; omega
    · rw [decD_big h, valN_app, ih (n / 10) (by omega), dig_nat (show n % 10 < 10 by omega)]; omega
theorem decD_ne (n : Nat) : decD n ≠ [] := by
  by_cases h : n < 10
  · rw [decD_small h]; simp
  · rw [decD_big h]; simp
theorem decD_head (n : Nat) (h : 0 < n) : (decD n).head? ≠ some 48 := by
  induction n using Nat.strongRecOn with
  | _ n ih =>
    by_cases h1 : n < 10
    · rw [decD_small h1]
      intro e
      simp only [List.head?_cons, Option.some.injEq] at e
      have := congrArg UInt8.toNat e
      rw [dig_nat h1] at this
      have e48 : (48 : UInt8).toNat = 48 := rfl
      omega
    · rw [decD_big h1]
      have := ih (n / 10) (by omega) (by omega)
      cases hd : decD (n / 10) with
      | nil => exact absurd hd (decD_ne _)
      | cons b l => rw [hd] at this; exact this
theorem decD_len3 {n : Nat} (h : n < 1000) : (decD n).length ≤ 3 := by
  by_cases h1 : n < 10
  · rw [decD_small h1]; simp
  · rw [decD_big h1, List.length_append]
    by_cases h2 : n / 10 < 10
    · rw [decD_small h2]; simp
    · rw [decD_big h2, List.length_append, decD_small (show n / 10 / 10 < 10 by omega)]; simp
theorem numR_dec {lim n : Nat} (hl : 3 ≤ lim) (h : n < 1000) : numR lim (decD n) = (n, true) := by
  unfold numR
  have h3 := decD_len3 h
  rw [if_neg, if_pos (decD_digs n), decD_val]
  rintro (e | e | ⟨e, e2⟩)
  · exact decD_ne n e
  · omega
  · by_cases h0 : 0 < n
    · exact decD_head n h0 e
    · have : n = 0 := by omega
      subst this
      rw [decD_small (by omega)] at e2
      simp at e2
theorem valN_pos {s : List UInt8} {b : UInt8} (hb : isDig b = true) (h : b ≠ 48) : 0 < valN 0 (b :: s) := by
  have h1 : 0 < b.toNat - 48 := by
    unfold isDig at hb
    simp only [decide_eq_true_eq] at hb
    have : b.toNat ≠ 48 := fun e => h (UInt8.toNat_inj.1 (by rw [e]; rfl))
    omega
  have : ∀ (s : List UInt8) (n : Nat), 0 < n → 0 < valN n s := by
    intro s
    induction s with
    | nil => intro n h; rw [valN_nil]; exact h
    | cons c s ih => intro n h; rw [valN_cons]; exact ih _ (by rw [stepV_eq]; omega)
  rw [valN_cons]
  exact this s _ (by rw [stepV_eq]; omega)
theorem dec_of_val : ∀ (k : Nat) (s : List UInt8), s.length = k → s ≠ [] → digs s = true → (s.head? = some 48 → s.length ≤ 1) → decD (valN 0 s) = s := by
  intro k
  induction k with
  | zero => intro s hl hne; exact absurd (List.length_eq_zero_iff.1 hl) hne
  | succ k ih =>
    intro s hl hne hd hh
    have hs : s = s.dropLast ++ [s.getLast hne] := (List.dropLast_concat_getLast hne).symm
    generalize s.getLast hne = b at hs
    generalize s.dropLast = r at hs
    subst hs
    rw [valN_app]
    unfold digs at hd
    rw [List.all_append] at hd
    simp only [List.all_cons, List.all_nil, Bool.and_true, Bool.and_eq_true] at hd
    obtain ⟨hr, hb⟩ := hd
    have hb2 := hb
    unfold isDig at hb2
    simp only [decide_eq_true_eq] at hb2
    have hb3 : UInt8.ofNat (48 + (b.toNat - 48)) = b := UInt8.toNat_inj.1 (by rw [dig_nat (by omega)]; omega)
    cases r with
    | nil =>
      rw [valN_nil, decD_small (by omega), show 10 * 0 + (b.toNat - 48) = b.toNat - 48 by omega, hb3]; rfl
    | cons c r =>
      have hc : c ≠ 48 := fun e => by
        have := hh (by rw [e]; rfl)
        simp at this
      have hcd : isDig c = true := by simp only [List.all_cons, Bool.and_eq_true] at hr; exact hr.1
      have hp := valN_pos (s := r) hcd hc
      rw [decD_big (by omega), show (10 * valN 0 (c :: r) + (b.toNat - 48)) / 10 = valN 0 (c :: r) by omega, show (10 * valN 0 (c :: r) + (b.toNat - 48)) % 10 = b.toNat - 48 by omega, hb3,
        ih (c :: r) (by simpa using hl) (by simp) hr (fun e => by simp at e; exact absurd e hc)]
theorem numR_true {lim : Nat} {s : List UInt8} (h : (numR lim s).2 = true) : decD (numR lim s).1 = s := by
  unfold numR at h ⊢
  by_cases h1 : s = [] ∨ lim < s.length ∨ (s.head? = some 48 ∧ 1 < s.length)
  · rw [if_pos h1] at h; cases h
  · rw [if_neg h1] at h ⊢
    by_cases h2 : digs s = true
    · rw [if_pos h2] at h ⊢
      exact dec_of_val _ s rfl (fun e => h1 (.inl e)) h2 (fun e => by
        rcases Nat.lt_or_ge 1 s.length with h3 | h3
        · exact absurd (.inr (.inr ⟨e, h3⟩)) h1
        · exact h3)
    · rw [if_neg h2] at h; cases h
/-- The two readings of a number agree, as far as they count. -/
theorem numR_two {s : List UInt8} {n : Nat} (hn : n ≤ 200) : numR 9 s = (n, true) ↔ numR 10 s = (n, true) := by
  constructor
  · intro h
    have := numR_true (lim := 9) (s := s) (by rw [h])
    rw [h] at this
    rw [← this]; exact numR_dec (by omega) (by omega)
  · intro h
    have := numR_true (lim := 10) (s := s) (by rw [h])
    rw [h] at this
    rw [← this]; exact numR_dec (by omega) (by omega)
/-! Parts -/
theorem splitL_ne (c : UInt8) : ∀ (s : List UInt8), splitL c s ≠ []
  | [] => by simp [splitL]
  | b :: l => by
    unfold splitL
    split
    · simp
    · split <;> simp
def joinL (c : UInt8) : List (List UInt8) → List UInt8
  | [] => []
  | [p] => p
  | p :: q :: r => p ++ c :: joinL c (q :: r)
theorem join_split (c : UInt8) : ∀ (s : List UInt8), joinL c (splitL c s) = s
  | [] => rfl
  | b :: l => by
    have ih := join_split c l
    unfold splitL
    by_cases h : b = c
    · rw [if_pos h]
      cases hs : splitL c l with
      | nil => exact absurd hs (splitL_ne c l)
      | cons p ps =>
        rw [hs] at ih
        show [] ++ c :: joinL c (p :: ps) = _
        rw [ih, h]; rfl
    · rw [if_neg h]
      cases hs : splitL c l with
      | nil => exact absurd hs (splitL_ne c l)
      | cons p ps =>
        rw [hs] at ih
        cases ps with
        | nil => show b :: p = _; rw [← ih]; rfl
        | cons q r => show (b :: p) ++ c :: joinL c (q :: r) = _; rw [← ih]; rfl
theorem split_app {c : UInt8} {l : List UInt8} : ∀ {a : List UInt8}, (∀ b ∈ a, b ≠ c) → splitL c (a ++ c :: l) = a :: splitL c l
  | [], _ => by show splitL c (c :: l) = _; rw [splitL, if_pos rfl]
  | b :: a, h => by
    show splitL c (b :: (a ++ c :: l)) = _
    rw [splitL, if_neg (h b (by simp)), split_app (fun x hx => h x (by simp [hx]))]
theorem split_one {c : UInt8} : ∀ {a : List UInt8}, (∀ b ∈ a, b ≠ c) → splitL c a = [a]
  | [], _ => rfl
  | b :: a, h => by rw [splitL, if_neg (h b (by simp)), split_one (fun x hx => h x (by simp [hx]))]
theorem decD_no (n : Nat) : ∀ b ∈ decD n, b ≠ 32 := by
  intro b hb e
  have h := List.all_eq_true.1 (decD_digs n) b hb
  subst e
  exact absurd h (by decide)
end Go.Proofs.YtcfabmmonoljeaaDoor

/- What functions of the program answer: part R3. -/
set_option linter.unusedVariables false
set_option linter.unusedSimpArgs false
set_option linter.unusedSectionVars false
namespace Go.Proofs.YtcfabmmonoljeaaDoor
open Go Go.Proofs.YtcfabmmonoljeaaDoor.VI
set_option maxHeartbeats 16000000
set_option maxRecDepth 20000
/-! A text is split -/
abbrev strs (ps : List (List UInt8)) : List CV := ps.map fun p => .str ⟨p.toArray⟩
end Go.Proofs.YtcfabmmonoljeaaDoor

/- What functions of the program answer: part R4. -/
set_option linter.unusedVariables false
set_option linter.unusedSimpArgs false
set_option linter.unusedSectionVars false
namespace Go.Proofs.YtcfabmmonoljeaaDoor
open Go Go.Proofs.YtcfabmmonoljeaaDoor.VI
set_option maxHeartbeats 16000000
set_option maxRecDepth 20000
/-! Letters -/
/-- The place of a letter among those from i on. -/
def letF (w : List UInt8) : Nat → Nat → Int
  | 0, _ => -1
  | n + 1, i => if w = [letB (i : Int)] then (i : Int) else letF w n (i + 1)
abbrev letW (w : List UInt8) : Int := letF w 6 0
theorem letF_rng {w : List UInt8} : ∀ (n i : Nat), letF w n i = -1 ∨ (0 ≤ letF w n i ∧ letF w n i < i + n ∧ w = [letB (letF w n i)])
  | 0, i => .inl rfl
  | n + 1, i => by
    unfold letF
    by_cases h : w = [letB (i : Int)]
    · rw [if_pos h]; exact .inr ⟨by omega, by omega, h⟩
    · rw [if_neg h]
      rcases letF_rng (w := w) n (i + 1) with h1 | ⟨h1, h2, h3⟩
      · exact .inl h1
      · exact .inr ⟨h1, by omega, h3⟩
theorem letW_rng {w : List UInt8} : letW w = -1 ∨ (0 ≤ letW w ∧ letW w ≤ 5 ∧ w = [letB (letW w)]) := by
  rcases letF_rng (w := w) 6 0 with h | ⟨h1, h2, h3⟩
  · exact .inl h
  · have h2' : letW w < ((0 : Nat) : Int) + ((6 : Nat) : Int) := h2
    exact .inr ⟨h1, by omega, h3⟩
theorem run43 {a b : List UInt8} (h : a.length < 4294967281) (H : AHeap) : ev kk 43 [.c (.str ⟨a.toArray⟩), .c (.str ⟨b.toArray⟩)] H = some (.c (.int .i64 (idxL a b)), H) := by
  refine ev_nat1 c43 rfl rfl ?_
  show (if (⟨a.toArray⟩ : ByteArray).size < 4294967281 then some ([V0.c (CV.int .i64 (idxL a b))], H) else none) = _
  rw [if_pos (by rw [bsize]; exact h)]
theorem run41 {s : List UInt8} (h : s.length < 4294967281) (H : AHeap) : ev kk 41 [.c (.str ⟨s.toArray⟩), .c (.str ⟨#[32]⟩)] H = some (.c (.slice (some (H.length, 0)) (splitL 32 s).length (.exact (splitL 32 s).length)), H ++ [some ⟨9, strs (splitL 32 s), .own⟩]) := by
  refine ev_nat1 c41 rfl rfl ?_
  show (if (⟨s.toArray⟩ : ByteArray).size < 4294967281 ∧ (⟨#[32]⟩ : ByteArray) = ⟨#[32]⟩ then some ([V0.c (CV.slice (some (H.length, 0)) (strsC 32 s).length (.exact (strsC 32 s).length))], H ++ [some ⟨9, strsC 32 s, .own⟩]) else none) = _
  rw [if_pos ⟨by rw [bsize]; exact h, rfl⟩]
  simp [strsC, strs]
abbrev lettL : List UInt8 := [100, 115, 108, 118, 99, 109]
theorem idx_one {b : UInt8} : idxL lettL [b] = letW [b] := by
  have e : ∀ (c : UInt8) (l : List UInt8), idxL (c :: l) [b] = if b = c then 0 else if idxL l [b] == -1 then -1 else idxL l [b] + 1 := fun c l => by
    rw [idxL]
    by_cases h : b = c
    · subst h; simp [List.isPrefixOf]
    · rw [if_neg h, if_neg (by simp [List.isPrefixOf, h])]
  have e0 : idxL [] [b] = -1 := rfl
  have l0 : ∀ i : Nat, letF [b] 0 i = -1 := fun i => rfl
  have l1 : ∀ n i : Nat, letF [b] (n + 1) i = if b = letB (i : Int) then (i : Int) else letF [b] n (i + 1) := fun n i => by
    rw [letF]
    by_cases h : b = letB (i : Int)
    · rw [if_pos h, if_pos (by rw [h])]
    · rw [if_neg h, if_neg (by simpa using h)]
  unfold lettL letW
  rw [e, e, e, e, e, e, e0, l1, l1, l1, l1, l1, l1, l0]
  have b0 : letB ((0 : Nat) : Int) = 100 := rfl
  have b1 : letB ((0 + 1 : Nat) : Int) = 115 := rfl
  have b2 : letB ((0 + 1 + 1 : Nat) : Int) = 108 := rfl
  have b3 : letB ((0 + 1 + 1 + 1 : Nat) : Int) = 118 := rfl
  have b4 : letB ((0 + 1 + 1 + 1 + 1 : Nat) : Int) = 99 := rfl
  have b5 : letB ((0 + 1 + 1 + 1 + 1 + 1 : Nat) : Int) = 109 := rfl
  rw [b0, b1, b2, b3, b4, b5]
  by_cases c0 : b = 100
  · simp [c0]
  by_cases c1 : b = 115
  · simp [c1]
  by_cases c2 : b = 108
  · simp [c2]
  by_cases c3 : b = 118
  · simp [c3]
  by_cases c4 : b = 99
  · simp [c4]
  by_cases c5 : b = 109
  · simp [c5]
  simp [c0, c1, c2, c3, c4, c5]
end Go.Proofs.YtcfabmmonoljeaaDoor

/- What functions of the program answer: part R5. -/
set_option linter.unusedVariables false
set_option linter.unusedSimpArgs false
set_option linter.unusedSectionVars false
namespace Go.Proofs.YtcfabmmonoljeaaDoor
open Go Go.Proofs.YtcfabmmonoljeaaDoor.VI
set_option maxHeartbeats 16000000
set_option maxRecDepth 20000
abbrev ADD : List UInt8 := [97, 100, 100]
abbrev WID : List UInt8 := [119, 105, 100, 101, 110]
abbrev zTg : Tm := ⟨0, 0, 0, 0⟩
def mkTg (k to n : Int) : Tm := if k = 1 then ⟨k, to, 0, n⟩ else ⟨k, to, n, 0⟩
/-- What the reference makes of a kind, a letter's place and a number. -/
noncomputable def rdN (k to : Int) (x : Nat × Bool) : Tm × Int :=
  if x.2 = true ∧ x.1 ≤ 200 then (if isT (mkTg k to x.1) = true then (mkTg k to x.1, 0) else (zTg, 5)) else (zTg, 5)
/-- What the reference reads. -/
noncomputable def rdS (s : List UInt8) : Tm × Int :=
  match splitL 32 s with
  | [w0, w1, w2] => if w0 = ADD then rdN 1 (letW w1) (numR 10 w2) else if w0 = WID then rdN 2 (letW w2) (numR 10 w1) else rdN 0 0 (numR 10 w1)
  | _ => (zTg, 5)
/-- What the program makes of a kind, a letter and a number. -/
noncomputable def rdM (s : List UInt8) (k : Int) (l : List UInt8) (x : Nat × Bool) : Tm × Int :=
  if x.2 = true ∧ x.1 ≤ 200 ∧ l.length = 1 ∧ 0 ≤ idxL lettL l then (if isT (mkTg k (idxL lettL l) x.1) = true ∧ txt (mkTg k (idxL lettL l) x.1) = s then (mkTg k (idxL lettL l) x.1, 0) else (zTg, 5)) else (zTg, 5)
/-- What the program reads. -/
noncomputable def rdI (s : List UInt8) : Tm × Int :=
  match splitL 32 s with
  | [w0, w1, w2] => if w0 = WID then rdM s 2 w2 (numR 9 w1) else rdM s 1 w1 (numR 9 w2)
  | _ => (zTg, 5)
theorem rdS_not {s : List UInt8} (h : (splitL 32 s).length ≠ 3) : rdS s = (zTg, 5) := by
  unfold rdS
  split
  · rename_i w0 w1 w2 e; rw [e] at h; exact absurd rfl h
  · rfl
theorem rdI_not {s : List UInt8} (h : (splitL 32 s).length ≠ 3) : rdI s = (zTg, 5) := by
  unfold rdI
  split
  · rename_i w0 w1 w2 e; rw [e] at h; exact absurd rfl h
  · rfl
theorem three {α : Type} {l : List α} (h : l.length = 3) : ∃ a b c, l = [a, b, c] := by
  match l, h with
  | [a, b, c], _ => exact ⟨a, b, c, rfl⟩
theorem idx_let_eq {w : List UInt8} (h : w.length = 1) : idxL lettL w = letW w := by
  match w, h with
  | [b], _ => exact idx_one
theorem letW_len {w : List UInt8} (h : w.length ≠ 1) : letW w = -1 := by
  rcases letW_rng (w := w) with h1 | ⟨_, _, h1⟩
  · exact h1
  · rw [h1] at h; exact absurd rfl h
theorem txt_add {to n : Int} (h : isT ⟨1, to, 0, n⟩ = true) : txt ⟨1, to, 0, n⟩ = ADD ++ 32 :: ([letB to] ++ 32 :: decD n.toNat) := by
  unfold txt; rw [if_pos h, if_pos rfl]; simp
theorem txt_wid {to n : Int} (h : isT ⟨2, to, n, 0⟩ = true) : txt ⟨2, to, n, 0⟩ = WID ++ 32 :: (decD n.toNat ++ 32 :: [letB to]) := by
  unfold txt; rw [if_pos h, if_neg (show ¬ (2 : Int) = 1 by decide)]; simp
theorem isT_zero {to n : Int} : isT (mkTg 0 to n) = false := by
  unfold isT mkTg; rw [if_neg (by decide)]; apply decide_eq_false; dsimp only; omega
theorem rdN_bad {k to : Int} {x : Nat × Bool} (h : ¬ (x.2 = true ∧ x.1 ≤ 200)) : rdN k to x = (zTg, 5) := by unfold rdN; rw [if_neg h]
theorem rdN_no {k to : Int} {x : Nat × Bool} (h : isT (mkTg k to x.1) = false) : rdN k to x = (zTg, 5) := by
  unfold rdN; split
  · rw [if_neg (by rw [h]; decide)]
  · rfl
theorem rdM_no {s : List UInt8} {k : Int} {l : List UInt8} {x : Nat × Bool} (h : ¬ (x.2 = true ∧ x.1 ≤ 200 ∧ l.length = 1 ∧ 0 ≤ idxL lettL l ∧ isT (mkTg k (idxL lettL l) x.1) = true ∧ txt (mkTg k (idxL lettL l) x.1) = s)) : rdM s k l x = (zTg, 5) := by
  unfold rdM; split
  · rename_i c
    rw [if_neg (fun d => h ⟨c.1, c.2.1, c.2.2.1, c.2.2.2, d⟩)]
  · rfl
/-- Both read alike, where the text is that of the tamper. -/
theorem rd_alike {s : List UInt8} {k : Int} {l d : List UInt8} (hk : k = 1 ∨ k = 2) (ht : ∀ (n : Nat), decD n = d → l = [letB (letW l)] → isT (mkTg k (letW l) n) = true → txt (mkTg k (letW l) n) = s) : rdM s k l (numR 9 d) = rdN k (letW l) (numR 10 d) := by
  by_cases h9 : (numR 9 d).2 = true ∧ (numR 9 d).1 ≤ 200
  · have e9 : numR 9 d = ((numR 9 d).1, true) := by rw [← h9.1]
    have e10 := (numR_two h9.2).1 e9
    have hd := numR_true h9.1
    generalize (numR 9 d).1 = n at *
    have hn : n ≤ 200 := h9.2
    rw [e9, e10]
    by_cases hl : l.length = 1
    · have hi := idx_let_eq hl
      rcases letW_rng (w := l) with h1 | ⟨h1, h2, h3⟩
      · rw [rdM_no (by rw [hi, h1]; intro hh; exact absurd hh.2.2.2.1 (by decide)), rdN_no (by rw [h1]; unfold isT mkTg; apply decide_eq_false; split <;> (dsimp only; omega))]
      · cases hT : isT (mkTg k (letW l) n)
        · rw [rdM_no (by rw [hi]; intro hh; rw [hT] at hh; exact absurd hh.2.2.2.2.1 (by decide)), rdN_no hT]
        · have hs := ht n hd h3 hT
          unfold rdM rdN
          rw [hi, if_pos ⟨rfl, hn, hl, h1⟩, if_pos ⟨hT, hs⟩, if_pos ⟨rfl, hn⟩, if_pos hT]
    · rw [rdM_no (fun hh => hl hh.2.2.1), rdN_no (by rw [letW_len hl]; unfold isT mkTg; apply decide_eq_false; split <;> (dsimp only; omega))]
  · have h10 : ¬ ((numR 10 d).2 = true ∧ (numR 10 d).1 ≤ 200) := fun hh => by
      have e10 : numR 10 d = ((numR 10 d).1, true) := by rw [← hh.1]
      have e9 := (numR_two hh.2).2 e10
      exact h9 (by rw [e9]; exact ⟨rfl, hh.2⟩)
    rw [rdN_bad h10, rdM_no (fun hh => h9 ⟨hh.1, hh.2.1⟩)]
theorem add_no : ∀ b ∈ ADD, b ≠ 32 := by decide
/-- The program reads what the reference reads. -/
theorem rd_eq (s : List UInt8) : rdI s = rdS s := by
  by_cases h3 : (splitL 32 s).length = 3
  · obtain ⟨w0, w1, w2, e⟩ := three h3
    have hj := join_split 32 s
    rw [e] at hj
    have hj : w0 ++ 32 :: (w1 ++ 32 :: w2) = s := hj
    have hI : rdI s = if w0 = WID then rdM s 2 w2 (numR 9 w1) else rdM s 1 w1 (numR 9 w2) := by unfold rdI; rw [e]
    have hS : rdS s = if w0 = ADD then rdN 1 (letW w1) (numR 10 w2) else if w0 = WID then rdN 2 (letW w2) (numR 10 w1) else rdN 0 0 (numR 10 w1) := by unfold rdS; rw [e]
    rw [hI, hS]
    by_cases a : w0 = ADD
    · rw [if_pos a, if_neg (by rw [a]; decide)]
      refine rd_alike (.inl rfl) (fun n hn hl hT => ?_)
      have hm : mkTg 1 (letW w1) n = ⟨1, letW w1, 0, n⟩ := by unfold mkTg; rw [if_pos rfl]
      rw [hm] at hT ⊢
      rw [txt_add hT, ← hl, Int.toNat_natCast, hn, ← a, hj]
    · rw [if_neg a]
      by_cases b : w0 = WID
      · rw [if_pos b, if_pos b]
        refine rd_alike (.inr rfl) (fun n hn hl hT => ?_)
        have hm : mkTg 2 (letW w2) n = ⟨2, letW w2, n, 0⟩ := by unfold mkTg; rw [if_neg (by decide)]
        rw [hm] at hT ⊢
        rw [txt_wid hT, ← hl, Int.toNat_natCast, hn, ← b, hj]
      · rw [if_neg b, if_neg b, rdN_no isT_zero]
        refine rdM_no (fun hh => a ?_)
        obtain ⟨_, _, _, _, hT, hx⟩ := hh
        have hm : mkTg 1 (idxL lettL w1) (numR 9 w2).1 = ⟨1, idxL lettL w1, 0, (numR 9 w2).1⟩ := by unfold mkTg; rw [if_pos rfl]
        rw [hm] at hT hx
        rw [txt_add hT] at hx
        have h2 := split_app (c := 32) (l := [letB (idxL lettL w1)] ++ 32 :: decD ((((numR 9 w2).1 : Nat) : Int)).toNat) add_no
        rw [hx, e] at h2
        exact (List.cons.inj h2).1
  · rw [rdI_not h3, rdS_not h3]
end Go.Proofs.YtcfabmmonoljeaaDoor

/- What functions of the program answer: part R6. -/
set_option linter.unusedVariables false
set_option linter.unusedSimpArgs false
set_option linter.unusedSectionVars false
namespace Go.Proofs.YtcfabmmonoljeaaDoor
open Go Go.Proofs.YtcfabmmonoljeaaDoor.VI
set_option maxHeartbeats 16000000
set_option maxRecDepth 20000
theorem rngMk {k to : Int} {n : Nat} (hk : 0 ≤ k ∧ k ≤ 2) (ht : -1 ≤ to ∧ to ≤ 5) (hn : n ≤ 200) : rngT (mkTg k to n) := by
  unfold mkTg rngT; split <;> (dsimp only; omega)
theorem letW_bnd {w : List UInt8} : -1 ≤ letW w ∧ letW w ≤ 5 := by
  rcases letW_rng (w := w) with h | ⟨h1, h2, _⟩
  · rw [h]; omega
  · omega
end Go.Proofs.YtcfabmmonoljeaaDoor
