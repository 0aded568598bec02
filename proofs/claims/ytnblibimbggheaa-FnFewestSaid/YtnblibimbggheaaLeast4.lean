/- What functions of the program answer: part Least4. -/
import Derived.Test.YtnblibimbggheaaLeast3
set_option linter.unusedVariables false
set_option linter.unusedSimpArgs false
set_option linter.unusedSectionVars false
namespace Go.Proofs.Ytnblibimbggheaa
open Go Go.Proofs.Ytnblibimbggheaa.VI
set_option maxHeartbeats 16000000
set_option maxRecDepth 20000
theorem loop46_2 {p : Pr} {G0 G : AHeap} {b : Nat} {a : Int} {ts : List Tm} {ys : List Hf} {v : AV} {q : Option (Nat × Nat)} {cap : Cap} (hts : Tts G q ts) (tfew : ts.length ≤ 366) (hys : HsOk p G0 G ys ts v) (hok : ∀ t ∈ ts, okP (tmR p t).1 = true) : ∀ (n i : Nat) (_ : i + n = ts.length) (J : AHeap) (_ : Pre G J) (σ : Sl) (_ : σ 1 = .c (.int .i64 a)) (_ : σ 2 = .c (.int .i64 2)) (_ : σ 8 = .c (.slice q ts.length cap)) (_ : σ 9 = v) (_ : σ 13 = .c (.int .i64 i)),
    Post (evC (ev kk) (.loop l46_2) (σ, J)) fun ex σ' H' => Pre G H' ∧ match ltB p a (ts.drop i) with
      | some (t, w) => ex = .ret ∧ σ' 7 = .c (.int .i64 0) ∧ ∃ c, σ' 6 = .c c ∧ TsNw G H' c [t, w]
      | none => ex = .exit 2
  | 0, i, hi, J, hJ, σ, h1, h2, h8, h9, h13 => by
    have hge : ¬ ((i : Int) < ts.length) := by omega
    have e0 : ts.drop i = [] := List.drop_eq_nil_of_le (by omega)
    rw [evC_loop, e0]
    simp only [evC_exit, evC_region, evC_seq, ev_t, ev_k, putS_some, ops_nil, ops_consg, guard_bool, evC_condC, cond_bool, ops_cons, next_some, then_norm, then_exit, Option.map_some, evalOp, ↓reduceIte, reduceCtorEq, binA, binC, intBin, or_false, or_true, and_true, decide_false, eq_self, Bool.not_true, Bool.false_eq_true, Nat.reduceBEq, post_some, upd_at, upd_ne, l46_2, h8, h13, hge, ltB]
    exact hJ
  | n + 1, i, hi, J, hJ, σ, h1, h2, h8, h9, h13 => by
    have hil : i < ts.length := by omega
    have hlt : (i : Int) < ts.length := by omega
    have hyl := hys.len
    have hiy : i < ys.length := by omega
    have hlty : (i : Int) < ys.length := by omega
    obtain ⟨id, hv, hbl, hO⟩ := hys.lies (by omega)
    have hpr := hys.pr hiy hil
    have hyN := hys.2.1 _ (List.getElem_mem hiy)
    have hO := hO i hiy
    have okt := hok _ (List.getElem_mem hil)
    have step := loop46_2 (b := b) (a := a) (q := q) (cap := cap) hts tfew hys hok n (i + 1) (by omega)
    subst hv
    have hblJ := hJ.get hbl
    have z1 : (hrows ys)[i * 18 + 1]? = some (.slice (ys[i]'hiy).p (ys[i]'hiy).xs.length (ys[i]'hiy).cap) := hr1 hiy
    rw [evC_loop, ltB_step hil]
    obtain ⟨y, hy⟩ : ∃ y, y = ys[i]'hiy := ⟨_, rfl⟩
    rw [← hy] at hpr hyN hO z1
    have oky : okF y = true := by rw [← hpr] at okt; exact okt
    rw [← hpr]
    have hyJ := (hyN.pre hJ).at_
    have s1 := run51 oky hyJ
    by_cases hgt : a < sumN y.xs
    · rw [ltA_over (p := y.pr) oky hgt (fun t h => (ways_mem (p := y.pr) (okP_few oky) h).2)]
      have stepK := step J hJ
      clear step
      simp (maxSteps := 4000000) (disch := first | omega | (refine _root_.id ?_; simp only [pl_int, pl_bool, pl_str, pl_undef, pl_nil, pl_ptr, plA_c, plA_agg, plA_tup, plV_c, plV_agg, List.all_cons, List.all_nil, Bool.and_true, Bool.and_self, eq_self, vi_int, vi_bool, get_app, get_app0, List.getElem?_cons_zero, List.getElem?_cons_succ, Option.join_some, lst_get, getL, upd_at, upd_ne, Nat.reduceBEq])) only [evC_skip, evC_exit, evC_region, evC_seq, evC_block, ev_t, ev_k, putS_some, ops_nil, ops_consg, guard_bool, evC_condC, cond_bool, ops_cons, next_some, then_norm, then_exit, out_exit, Option.map_some, evalOp, readCell, Nat.zero_add, ↓reduceIte, reduceCtorEq, binA, binC, intBin, or_false, or_true, decide_true, and_self, eq_self, IntWalk.i64_in, beq_self_eq_true, List.map_cons, List.map_nil, List.append_nil, upd_at, upd_ne, cast_nonneg, cast_toNat, l46_2, h1, h2, h8, h9, h13, hlt, hlty, hblJ, z1, s1, hgt]
      exact stepK _ (by simp only [upd_ne, Nat.reduceBEq, h1]) (by simp only [upd_ne, Nat.reduceBEq, h2]) (by simp only [upd_ne, Nat.reduceBEq, h8]) (by simp only [upd_ne, Nat.reduceBEq, h9]) (by simp only [upd_at]; rfl)
    · obtain ⟨c, J1, e72, p72, o72⟩ := run72o hyJ oky (hO.pre hJ)
      have nw := TsNw.of o72
      have hmem := fun t (h : t ∈ waysP y.pr) => ways_mem (p := y.pr) (okP_few oky) h
      have wfew := ways_few (p := y.pr) (okP_few oky)
      obtain ⟨q', cap', rfl, hws⟩ := nw.at_
      have pJ1 : Pre G J1 := hJ.trans p72
      have key : ∀ S : Sl, S 1 = .c (.int .i64 a) → S 2 = .c (.int .i64 2) → S 8 = .c (.slice q ts.length cap) → S 9 = .c (.slice (some (id, 0)) ys.length (.toEnd 18)) → S 13 = .c (.int .i64 i) → S 14 = .c (.slice q' (waysP y.pr).length cap') → S 15 = .c (.int .i64 0) → _ := fun S s1 s2 s8 s9 s13 s14 s15 => loop46_1 oky (c9 := .toEnd 18) (hyN.pre pJ1).at_ (hO.pre pJ1) hiy (a := a) (q := q) (q' := q') (cap := cap) (cap' := cap') (hts.pre pJ1) hil hws wfew hmem (waysP y.pr).length 0 (by omega) J1 .refl S s1 s8 s9 s13 s14 s15
      simp (maxSteps := 4000000) (disch := first | omega | (refine _root_.id ?_; simp only [pl_int, pl_bool, pl_str, pl_undef, pl_nil, pl_ptr, plA_c, plA_agg, plA_tup, plV_c, plV_agg, List.all_cons, List.all_nil, Bool.and_true, Bool.and_self, eq_self, vi_int, vi_bool, get_app, get_app0, List.getElem?_cons_zero, List.getElem?_cons_succ, Option.join_some, lst_get, getL, upd_at, upd_ne, Nat.reduceBEq])) only [evC_skip, evC_region, evC_seq, evC_block, ev_t, ev_k, putS_some, ops_nil, ops_consg, guard_bool, evC_condC, cond_bool, ops_cons, next_some, then_norm, Option.map_some, evalOp, readCell, Nat.zero_add, ↓reduceIte, reduceCtorEq, binA, binC, intBin, or_false, or_true, decide_true, decide_false, and_self, eq_self, beq_self_eq_true, Bool.false_eq_true, List.map_cons, List.map_nil, List.append_nil, upd_at, upd_ne, cast_nonneg, cast_toNat, l46_2, h1, h2, h8, h9, h13, hlt, hlty, hblJ, z1, s1, hgt, e72]
      obtain ⟨ex, σ', J2, eL, pL, hL⟩ := key (upd (upd (upd (upd (upd (upd (upd (upd (upd (upd (upd (upd (upd (upd (upd (upd (upd (upd (upd (upd (upd (upd (upd (upd σ 69 (.c (.int .i64 i))) 70 (.c (.slice q ts.length cap))) 71 (.c (.int .i64 ts.length))) 72 (.c (.bool true))) 73 (.c (.bool true))) 73 (.c (.bool true))) 74 (.c (.int .i64 2))) 73 (.c (.bool true))) 75 (.c (.bool true))) 76 (.c (.bool true))) 79 (.c (.slice (some (id, 0)) ys.length (.toEnd 18)))) 80 (.c (.int .i64 i))) 81 (.c (.ptr (some (id, i * 18))))) 82 (.c (.ptr (some (id, i * 18 + 1))))) 83 (.c (.slice y.p y.xs.length y.cap))) 84 (.c (.int .i64 (sumN y.xs)))) 85 (.c (.int .i64 a))) 86 (.c (.bool false))) 87 (.c (.slice (some (id, 0)) ys.length (.toEnd 18)))) 88 (.c (.int .i64 i))) 89 (.c (.ptr (some (id, i * 18))))) 90 (.c (.slice q' (waysP y.pr).length cap'))) 14 (.c (.slice q' (waysP y.pr).length cap'))) 15 (.c (.int .i64 0))) (by simp only [upd_ne, Nat.reduceBEq, h1]) (by simp only [upd_ne, Nat.reduceBEq, h2]) (by simp only [upd_ne, Nat.reduceBEq, h8]) (by simp only [upd_ne, Nat.reduceBEq, h9]) (by simp only [upd_ne, Nat.reduceBEq, h13]) (by simp only [upd_at, upd_ne, Nat.reduceBEq]) (by simp only [upd_at])
      rw [eL]
      clear key eL
      rw [List.drop_zero] at hL
      have pJ2 : Pre G J2 := pJ1.trans pL
      cases hw : ltA y.pr a (waysP y.pr) with
      | some w =>
        rw [hw] at hL
        obtain ⟨rfl, s7, c, s6, n6⟩ := hL
        simp (maxSteps := 4000000) (disch := first | omega | (refine _root_.id ?_; simp only [pl_int, pl_bool, pl_str, pl_undef, pl_nil, pl_ptr, plA_c, plA_agg, plA_tup, plV_c, plV_agg, List.all_cons, List.all_nil, Bool.and_true, Bool.and_self, eq_self, vi_int, vi_bool, get_app, get_app0, List.getElem?_cons_zero, List.getElem?_cons_succ, Option.join_some, lst_get, getL, upd_at, upd_ne, Nat.reduceBEq])) only [then_ret, out_ret, true_and, eq_self, post_some]
        exact ⟨pJ2, s7, c, s6, n6.base pJ1⟩
      | none =>
        rw [hw] at hL
        obtain ⟨rfl, s1', s8, s9, s13, s2⟩ := hL
        have s2 : σ' 2 = .c (.int .i64 2) := s2.trans (by simp only [upd_ne, Nat.reduceBEq, h2])
        simp (maxSteps := 4000000) (disch := first | omega | (refine _root_.id ?_; simp only [pl_int, pl_bool, pl_str, pl_undef, pl_nil, pl_ptr, plA_c, plA_agg, plA_tup, plV_c, plV_agg, List.all_cons, List.all_nil, Bool.and_true, Bool.and_self, eq_self, vi_int, vi_bool, get_app, get_app0, List.getElem?_cons_zero, List.getElem?_cons_succ, Option.join_some, lst_get, getL, upd_at, upd_ne, Nat.reduceBEq])) only [evC_region, ev_t, ev_k, putS_some, ops_nil, ops_cons, next_some, then_norm, out_norm, out_exit, Option.map_some, evalOp, ↓reduceIte, reduceCtorEq, binA, binC, intBin, or_false, or_true, eq_self, IntWalk.i64_in, upd_at, s13]
        exact step J2 pJ2 _ (by simp only [upd_ne, Nat.reduceBEq, s1']) (by simp only [upd_ne, Nat.reduceBEq, s2]) (by simp only [upd_ne, Nat.reduceBEq, s8]) (by simp only [upd_ne, Nat.reduceBEq, s9]) (by simp only [upd_at]; rfl)
end Go.Proofs.Ytnblibimbggheaa
