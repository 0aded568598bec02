/- What functions of the program answer: part C5. -/
import Derived.Test.YtmockobmiagbcaaDoorC4
set_option linter.unusedVariables false
set_option linter.unusedSimpArgs false
set_option linter.unusedSectionVars false
namespace Go.Proofs.YtmockobmiagbcaaDoor
open Go Go.Proofs.YtmockobmiagbcaaDoor.VI
set_option maxHeartbeats 16000000
set_option maxRecDepth 20000
/-! What the reference reads -/
theorem joinT_L : ∀ (ps : List (List UInt8)), joinT [32] ps = joinL 32 ps
  | [] => rfl
  | [p] => rfl
  | p :: q :: r => by
    have ih := joinT_L (q :: r)
    have e : joinT [32] (p :: q :: r) = p ++ 32 :: joinT [32] (q :: r) := by rw [joinT]; simp
    rw [e, joinL_cons, ih]
theorem amtT_join {a : Int} : amtT a = joinL 32 (wds a) := by
  unfold amtT wds
  by_cases h : a = 0
  · rw [if_pos h, if_pos h]; rfl
  · rw [if_neg h, if_neg h, joinT_L]
theorem join4 {A : List (List UInt8)} (h : A ≠ []) {r0 r1 r2 r3 : List UInt8} : joinL 32 (A ++ [r0, r1, r2, r3]) = joinL 32 A ++ 32 :: r0 ++ 32 :: r1 ++ 32 :: r2 ++ 32 :: r3 := by
  have e : A ++ [r0, r1, r2, r3] = A ++ [r0] ++ [r1] ++ [r2] ++ [r3] := by simp
  rw [e, joinL_snoc (by simp), joinL_snoc (by simp), joinL_snoc (by simp), joinL_snoc h]
theorem join6 {A : List (List UInt8)} (h : A ≠ []) {r0 r1 r2 r3 r4 r5 : List UInt8} : joinL 32 (A ++ [r0, r1, r2, r3, r4, r5]) = joinL 32 A ++ 32 :: r0 ++ 32 :: r1 ++ 32 :: r2 ++ 32 :: r3 ++ 32 :: r4 ++ 32 :: r5 := by
  have e : A ++ [r0, r1, r2, r3, r4, r5] = A ++ [r0, r1, r2, r3] ++ [r4] ++ [r5] := by simp
  rw [e, joinL_snoc (by simp), joinL_snoc (by simp), join4 h]
theorem fin4_ok {h r1 r3 : List UInt8} {e : Option (List UInt8 × List UInt8)} {l : Ln} (H : fin4 h r1 r3 e = some l) : okL l = true ∧ amtT l.A = h ∧ decD l.d.toNat = r1 ∧ decD l.n.toNat ++ [47] ++ decD l.D.toNat = r3 ∧ l.v = evV e ∧ evB e = true := by
  unfold fin4 at H
  revert H
  cases ha : amQ h with
  | none => intro H; cases H
  | some a =>
    intro H
    simp only at H
    obtain ⟨h1, H⟩ := ite_some H
    have hj := join_split 47 r3
    revert H hj
    rcases splitL 47 r3 with _ | ⟨p0, _ | ⟨p1, _ | ⟨p2, r⟩⟩⟩ <;> intro H hj
    · cases H
    · cases H
    · simp only at H
      obtain ⟨h2, H⟩ := ite_some H
      injection H with H
      simp only [Bool.and_eq_true] at h2
      obtain ⟨⟨⟨h3, h4⟩, h5⟩, h6⟩ := h2
      rw [H] at h6
      subst H
      refine ⟨h6, (amQ_ok ha).2, ?_, ?_, rfl, h5⟩
      · simp only [Int.toNat_natCast]; exact numR_true h1
      · simp only [Int.toNat_natCast]
        rw [numR_true h3, numR_true h4, ← hj]; simp [joinL]
    · cases H
theorem rlS_ok {s : List UInt8} {l : Ln} (h : rlS s = some l) : okL l = true ∧ lnT l = s := by
  have hj := join_split 32 s
  unfold rlS at h
  by_cases h0 : onIx (splitL 32 s) = 0
  · rw [if_pos h0] at h; cases h
  · rw [if_neg h0] at h
    have ht := List.take_append_drop (onIx (splitL 32 s)) (splitL 32 s)
    have hon := onIx_at (splitL 32 s)
    have hl := List.length_drop (i := onIx (splitL 32 s)) (l := splitL 32 s)
    have hle := onIx_le (splitL 32 s)
    have hne : (splitL 32 s).take (onIx (splitL 32 s)) ≠ [] := List.length_pos_iff.1 (by rw [List.length_take]; omega)
    rw [← ht] at hj
    clear ht
    revert h
    revert hon
    revert hl
    revert hj
    rcases (splitL 32 s).drop (onIx (splitL 32 s)) with _ | ⟨r0, _ | ⟨r1, _ | ⟨r2, _ | ⟨r3, _ | ⟨r4, _ | ⟨r5, _ | ⟨r6, r⟩⟩⟩⟩⟩⟩⟩ <;> intro hj hl hon h <;> simp only [List.length_cons, List.length_nil] at hl
    · cases h
    · cases h
    · cases h
    · cases h
    · obtain ⟨h2, h⟩ := ite_some h
      have hr : r0 = onW := by have := hon (by omega); simpa using this
      obtain ⟨o, b1, b2, b3, b4, b5⟩ := fin4_ok h
      refine ⟨o, ?_⟩
      rw [join4 hne] at hj
      rw [← hj]
      unfold lnT
      rw [b1, b2, b4, if_neg (by simp [evV]), hr, h2, ← b3]
      simp
    · cases h
    · obtain ⟨h2, h⟩ := ite_some h
      have hr : r0 = onW := by have := hon (by omega); simpa using this
      obtain ⟨o, b1, b2, b3, b4, b5⟩ := fin4_ok h
      refine ⟨o, ?_⟩
      rw [join6 hne] at hj
      rw [← hj]
      rw [evB_some] at b5
      simp only [Bool.and_eq_true, decide_eq_true_eq] at b5
      obtain ⟨⟨c1, c2⟩, c3⟩ := b5
      have hv : l.v = ((numR 10 r5).1 : Int) := b4
      unfold lnT
      rw [b1, b2, hv, if_pos (by omega), Int.toNat_natCast, numR_true c1, hr, h2, ← b3, c3]
      simp
    · cases h
theorem split_joinL {ps : List (List UInt8)} (h : ps ≠ []) (hn : ∀ p ∈ ps, ∀ b ∈ p, b ≠ 32) : splitL 32 (joinL 32 ps) = ps := by
  rw [← joinT_L]; exact split_join ps h hn
theorem wds_noo {a : Int} : ∀ p ∈ wds a, p ≠ onW := by
  unfold wds
  by_cases h : a = 0
  · rw [if_pos h]
    intro p hp
    rw [List.mem_singleton] at hp
    subst hp; decide
  · rw [if_neg h]
    intro p hp e
    exact pF_noo _ _ (by simp [ptsA]) p hp 111 (by rw [e]; simp) rfl
theorem onIx_app {r : List (List UInt8)} : ∀ {A : List (List UInt8)}, (∀ p ∈ A, p ≠ onW) → onIx (A ++ onW :: r) = A.length
  | [], _ => by show onIx (onW :: r) = _; rw [onIx, if_pos rfl]; rfl
  | p :: A, h => by
    show onIx (p :: (A ++ onW :: r)) = _
    rw [onIx, if_neg (h p (by simp)), onIx_app (fun x hx => h x (by simp [hx]))]; rfl
theorem rlS_of {l : Ln} (h : okL l = true) : rlS (lnT l) = some l := by
  obtain ⟨h1, h2, ⟨h3, h4⟩, h5⟩ := okL_p h
  have nd := numR_dec (lim := 10) (n := l.d.toNat) (by omega) (by omega)
  have nn := numR_dec (lim := 10) (n := l.n.toNat) (by omega) (by omega)
  have nD := numR_dec (lim := 10) (n := l.D.toNat) (by omega) (by omega)
  have nv := numR_dec (lim := 10) (n := l.v.toNat) (by omega) (by omega)
  have z1 : (l.d.toNat : Int) = l.d := by omega
  have z2 : (l.n.toNat : Int) = l.n := by omega
  have z3 : (l.D.toNat : Int) = l.D := by omega
  have z4 : (l.v.toNat : Int) = l.v := by omega
  have hA := wds_ne (a := l.A) h1.1
  have hp : splitL 47 (decD l.n.toNat ++ [47] ++ decD l.D.toNat) = [decD l.n.toNat, decD l.D.toNat] := by
    have e : decD l.n.toNat ++ [47] ++ decD l.D.toNat = decD l.n.toNat ++ 47 :: decD l.D.toNat := by simp
    rw [e, split_app (decD_noc (by decide)), split_one (decD_noc (by decide))]
  have no3 : ∀ b ∈ decD l.n.toNat ++ [47] ++ decD l.D.toNat, b ≠ 32 := by
    intro b hb
    simp only [List.mem_append, List.mem_singleton] at hb
    rcases hb with (hb | hb) | hb
    · exact decD_no _ b hb
    · subst hb; decide
    · exact decD_no _ b hb
  have noOn : ∀ b ∈ onW, b ≠ 32 := by decide
  have noAt : ∀ b ∈ atW, b ≠ 32 := by decide
  have noEv : ∀ b ∈ evW, b ≠ 32 := by decide
  have am := amQ_of (a := l.A) h1
  rw [amtT_join] at am
  by_cases hv : 0 < l.v
  · have e1 : lnT l = joinL 32 (wds l.A ++ [onW, decD l.d.toNat, atW, decD l.n.toNat ++ [47] ++ decD l.D.toNat, evW, decD l.v.toNat]) := by
      rw [join6 hA, ← amtT_join]
      unfold lnT
      rw [if_pos hv]; simp
    have e2 : splitL 32 (lnT l) = wds l.A ++ [onW, decD l.d.toNat, atW, decD l.n.toNat ++ [47] ++ decD l.D.toNat, evW, decD l.v.toNat] := by
      rw [e1]
      refine split_joinL (by simp) ?_
      intro p hp
      rcases List.mem_append.1 hp with hp | hp
      · exact wds_no p hp
      · simp only [List.mem_cons, List.not_mem_nil, or_false] at hp
        rcases hp with rfl | rfl | rfl | rfl | rfl | rfl
        · exact noOn
        · exact decD_no _
        · exact noAt
        · exact no3
        · exact noEv
        · exact decD_no _
    have e3 := onIx_app (A := wds l.A) (r := [decD l.d.toNat, atW, decD l.n.toNat ++ [47] ++ decD l.D.toNat, evW, decD l.v.toNat]) wds_noo
    unfold rlS
    rw [e2, e3, if_neg (by have := List.length_pos_iff.2 hA; omega), List.drop_left, List.take_left]
    show (if atW = atW then fin4 (joinL 32 (wds l.A)) (decD l.d.toNat) (decD l.n.toNat ++ [47] ++ decD l.D.toNat) (some (evW, decD l.v.toNat)) else none) = _
    rw [if_pos rfl]
    unfold fin4
    have eB : evB (some (evW, decD l.v.toNat)) = true := by
      rw [evB_some, nv]; simp; omega
    have eV : evV (some (evW, decD l.v.toNat)) = l.v := by
      show ((numR 10 (decD l.v.toNat)).1 : Int) = _; rw [nv]; exact z4
    simp only [am, nd, hp, nn, nD, eB, eV, z1, z2, z3, if_true, Bool.and_true, Bool.true_and, h]
  · have hv0 : l.v = 0 := by omega
    have e1 : lnT l = joinL 32 (wds l.A ++ [onW, decD l.d.toNat, atW, decD l.n.toNat ++ [47] ++ decD l.D.toNat]) := by
      rw [join4 hA, ← amtT_join]
      unfold lnT
      rw [if_neg hv]; simp
    have e2 : splitL 32 (lnT l) = wds l.A ++ [onW, decD l.d.toNat, atW, decD l.n.toNat ++ [47] ++ decD l.D.toNat] := by
      rw [e1]
      refine split_joinL (by simp) ?_
      intro p hp
      rcases List.mem_append.1 hp with hp | hp
      · exact wds_no p hp
      · simp only [List.mem_cons, List.not_mem_nil, or_false] at hp
        rcases hp with rfl | rfl | rfl | rfl
        · exact noOn
        · exact decD_no _
        · exact noAt
        · exact no3
    have e3 := onIx_app (A := wds l.A) (r := [decD l.d.toNat, atW, decD l.n.toNat ++ [47] ++ decD l.D.toNat]) wds_noo
    unfold rlS
    rw [e2, e3, if_neg (by have := List.length_pos_iff.2 hA; omega), List.drop_left, List.take_left]
    show (if atW = atW then fin4 (joinL 32 (wds l.A)) (decD l.d.toNat) (decD l.n.toNat ++ [47] ++ decD l.D.toNat) none else none) = _
    rw [if_pos rfl]
    unfold fin4
    have el : (⟨l.A, l.d, l.n, l.D, 0⟩ : Ln) = l := by rw [← hv0]
    simp only [am, nd, hp, nn, nD, evB, evV, z1, z2, z3, if_true, Bool.and_true, Bool.true_and, el, h]
theorem rl_eq (s : List UInt8) : rlI s = rlS s := by
  cases hI : rlI s with
  | some l =>
    obtain ⟨h1, h2⟩ := rlI_ok hI
    rw [← h2, rlS_of h1]
  | none =>
    cases hS : rlS s with
    | none => rfl
    | some l =>
      obtain ⟨h1, h2⟩ := rlS_ok hS
      rw [← h2, rlI_of h1] at hI
      cases hI
end Go.Proofs.YtmockobmiagbcaaDoor
