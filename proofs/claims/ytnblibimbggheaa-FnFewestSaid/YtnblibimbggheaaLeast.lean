/- What functions of the program answer: part Least. -/
import Derived.Test.YtnblibimbggheaaWays4
import Derived.Test.YtnblibimbggheaaTam3
import Derived.Test.YtnblibimbggheaaChance
set_option linter.unusedVariables false
set_option linter.unusedSimpArgs false
set_option linter.unusedSectionVars false
namespace Go.Proofs.Ytnblibimbggheaa
open Go Go.Proofs.Ytnblibimbggheaa.VI
set_option maxHeartbeats 16000000
set_option maxRecDepth 20000
/-! Fewest tampers to an amount: the plain part -/
theorem wth_lt {a b : Int} (h0 : 0 ≤ a) (h : a < b) (h5 : b ≤ 5) : wth a < wth b := by
  unfold wth
  repeat' split
  all_goals omega
theorem sumN_app {xs ys : List Nt} : sumN (xs ++ ys) = sumN xs + sumN ys := by
  induction xs with
  | nil => simp [sumN]
  | cons x xs ih => simp only [List.cons_append, sumN, ih]; omega
theorem sumN_cut {xs : List Nt} {k a : Int} : sumN xs < sumN (cutP xs k a) := by
  unfold cutP
  have h1 : sumN xs = sumN (xs.take (cutI a xs)) + sumN (xs.drop (cutI a xs)) := by rw [← sumN_app, List.take_append_drop]
  have h2 := wth_b k
  rw [sumN_app]
  simp only [sumN]
  omega
theorem sumN_set {xs : List Nt} : ∀ {i : Nat} (hi : i < xs.length) {x : Nt}, sumN (xs.set i x) = sumN xs - wth (xs[i]'hi).k + wth x.k := by
  induction xs with
  | nil => intro i hi; simp at hi
  | cons y ys ih =>
    intro i hi x
    match i with
    | 0 => simp only [List.set_cons_zero, sumN, List.getElem_cons_zero]; omega
    | i + 1 =>
      simp only [List.set_cons_succ, sumN, List.getElem_cons_succ]
      rw [ih (by simpa using hi)]; omega
theorem tm_more {p : Pr} (hp : okP p = true) {t : Tm} (h : (tmR p t).2 = 0) : sumN p.xs < sumN (tmR p t).1.xs := by
  unfold tmR at h ⊢
  by_cases k1 : t.k = 1
  · rw [if_pos k1] at h ⊢
    by_cases i0 : t.ix = 0
    · rw [if_pos i0] at h ⊢
      unfold cnR at h ⊢
      by_cases c1 : (0 ≤ t.to ∧ t.to ≤ 5) ∧ 0 ≤ t.at_ ∧ t.at_ ≤ 200
      · rw [if_pos c1] at h ⊢
        by_cases c2 : okH (cutP p.xs t.to t.at_) p.g = true
        · rw [if_pos c2]; exact sumN_cut
        · rw [if_neg c2] at h; exact absurd h (by decide)
      · rw [if_neg c1] at h; exact absurd h (by decide)
    · rw [if_neg i0] at h; exact absurd h (by decide)
  · rw [if_neg k1] at h ⊢
    by_cases k2 : t.k = 2
    · rw [if_pos k2] at h ⊢
      unfold wiR at h ⊢
      by_cases c1 : t.at_ = 0 ∧ (0 ≤ t.to ∧ t.to ≤ 5) ∧ 0 ≤ t.ix ∧ t.ix < p.xs.length
      · rw [if_pos c1] at h ⊢
        by_cases c2 : t.to ≤ (p.xs.getD t.ix.toNat ⟨0, 0⟩).k
        · rw [if_pos c2] at h; exact absurd h (by decide)
        · rw [if_neg c2] at h ⊢
          by_cases c3 : okH (setN p.xs t.ix.toNat t.to) p.g = true
          · rw [if_pos c3]
            have hi : t.ix.toNat < p.xs.length := by omega
            rw [getD_at hi] at c2
            have hk := (okH_p hp).2.1 _ (List.getElem_mem hi)
            have hk0 : 0 ≤ (p.xs[t.ix.toNat]'hi).k := by
              have := hk; unfold okN at this; simp at this; omega
            have hw := wth_lt hk0 (Int.not_le.1 c2) c1.2.1.2
            show sumN p.xs < sumN (setN p.xs t.ix.toNat t.to)
            unfold setN
            rw [sumN_set hi]
            dsimp only
            omega
          · rw [if_neg c3] at h; exact absurd h (by decide)
      · rw [if_neg c1] at h; exact absurd h (by decide)
    · rw [if_neg k2] at h; exact absurd h (by decide)
/-- The first tamper to an amount. -/
def ltA (p : Pr) (a : Int) : List Tm → Option Tm
  | [] => none
  | t :: ts => if sumN (tmR p t).1.xs = a then some t else ltA p a ts
def ltB (p : Pr) (a : Int) : List Tm → Option (Tm × Tm)
  | [] => none
  | t :: ts => match ltA (tmR p t).1 a (waysP (tmR p t).1) with
    | some w => some (t, w)
    | none => ltB p a ts
theorem ltA_step {p : Pr} {a : Int} {ts : List Tm} {i : Nat} (hi : i < ts.length) : ltA p a (ts.drop i) = if sumN (tmR p (ts[i]'hi)).1.xs = a then some (ts[i]'hi) else ltA p a (ts.drop (i + 1)) := by
  rw [List.drop_eq_getElem_cons hi]; rfl
theorem ltB_step {p : Pr} {a : Int} {ts : List Tm} {i : Nat} (hi : i < ts.length) : ltB p a (ts.drop i) = match ltA (tmR p (ts[i]'hi)).1 a (waysP (tmR p (ts[i]'hi)).1) with
    | some w => some (ts[i]'hi, w)
    | none => ltB p a (ts.drop (i + 1)) := by
  rw [List.drop_eq_getElem_cons hi]; rfl
theorem ltA_over {p : Pr} (hp : okP p = true) {a : Int} (h : a < sumN p.xs) : ∀ {ts : List Tm}, (∀ t ∈ ts, (tmR p t).2 = 0) → ltA p a ts = none
  | [], _ => rfl
  | t :: ts, q => by
    unfold ltA
    have := tm_more hp (q t (by simp))
    rw [if_neg (by omega)]
    exact ltA_over hp h fun t h => q t (by simp [h])
def amt (a : Int) : Bool := decide (0 ≤ a ∧ a ≤ 100000000)
def ltR (p : Pr) (a m : Int) : List Tm × Int :=
  if okP p = true then
    if (0 ≤ m ∧ m ≤ 2) ∧ amt a = true then
      if sumN p.xs = a then ([], 0)
      else if m = 0 then ([], 6)
      else match ltA p a (waysP p) with
        | some t => ([t], 0)
        | none => if m = 1 then ([], 6) else match ltB p a (waysP p) with
          | some (t, w) => ([t, w], 0)
          | none => ([], 6)
    else ([], 2)
  else ([], 1)
theorem run87 (a : Int) (H : AHeap) : ev kk 87 [.c (.int .i64 a)] H = some (.c (.bool (amt a)), H) := by
  rw [ev_call c87]; unfold k87; rw [evB_eq rfl]
  simp (maxSteps := 4000000) (disch := first | omega | (refine _root_.id ?_; simp only [pl_int, pl_bool, pl_str, pl_undef, pl_nil, pl_ptr, plA_c, plA_agg, plA_tup, plV_c, plV_agg, List.all_cons, List.all_nil, Bool.and_true, Bool.and_self, eq_self, vi_int, vi_bool, get_app, get_app0, List.getElem?_cons_zero, List.getElem?_cons_succ, Option.join_some, lst_get, getL, upd_at, upd_ne, Nat.reduceBEq])) only [evC_ret, evC_region, evC_seq, ev_t, ev_k, putS_some, upd_l, ops_nil, ops_cons, next_some, then_norm, done_ret, putL, getL, Option.bind_some, Option.map_some, evalOp, evalRs, evalR, AV.toV0?, mkRes, V0.toAV, lst_get, eq_self, finish_id, List.map_cons, List.map_nil, List.append_nil, run75, amt]
theorem run88 (a : Int) (H : AHeap) : ev kk 88 [.c (.int .i64 a)] H = some (.c (.bool (amt a)), H) := by
  rw [ev_call c88]; unfold k88; rw [evB_eq rfl]
  unfold amt
  simp only [evC_ret, evC_region, evC_seq, ev_t, ev_k, putS_some, upd_l, ops_nil, ops_consg, guard_bool, ops_cons, next_some, map_ite, then_ite, then_norm, done_ite, done_ret, putL, getL, Option.bind_some, Option.map_some, evalOp, ↓reduceIte, reduceCtorEq, binA, binC, intBin, or_false, or_true, evalRs, evalR, AV.toV0?, mkRes, V0.toAV, lst_get, eq_self, finish_id, pl_bool, plA_c, decide_eq_true_eq, Bool.not_true, Bool.false_eq_true]
  repeat' (refine ite_to (fun _ => ?_) (fun _ => ?_))
  all_goals (first | (refine leafT ?_; omega) | (refine leafF ?_; omega) | (refine leafD ?_; omega))
end Go.Proofs.Ytnblibimbggheaa
