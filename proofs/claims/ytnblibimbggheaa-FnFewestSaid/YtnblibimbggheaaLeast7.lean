/- What functions of the program answer: part Least7. -/
import Derived.Test.YtnblibimbggheaaLeast6
set_option linter.unusedVariables false
set_option linter.unusedSimpArgs false
set_option linter.unusedSectionVars false
namespace Go.Proofs.Ytnblibimbggheaa
open Go Go.Proofs.Ytnblibimbggheaa.VI
set_option maxHeartbeats 16000000
set_option maxRecDepth 20000
theorem loop47_2 {p : Pr} {G0 G : AHeap} {a : Int} {ts : List Tm} {ys : List Hf} {v : AV} {q : Option (Nat × Nat)} {cap : Cap} (hts : Tts G q ts) (tfew : ts.length ≤ 366) (hys : HsOk p G0 G ys ts v) (hok : ∀ t ∈ ts, okP (tmR p t).1 = true) : ∀ (n i : Nat) (_ : i + n = ts.length) (J : AHeap) (_ : Pre G J) (σ : Sl) (_ : σ 1 = .c (.int .i64 a)) (_ : σ 8 = .c (.slice q ts.length cap)) (_ : σ 72 = v) (_ : σ 73 = .c (.int .i64 ys.length)) (_ : σ 74 = .c (.int .i64 i)),
    Post (evC (ev kk) (.loop l47_2) (σ, J)) fun ex σ' H' => Pre G H' ∧ match ltB p a (ts.drop i) with
      | some (t, w) => ex = .ret ∧ σ' 7 = .c (.int .i64 0) ∧ ∃ c, σ' 6 = .c c ∧ TsNw G H' c [t, w]
      | none => ex = .exit 3
  | 0, i, hi, J, hJ, σ, h1, h8, h72, h73, h74 => by
    have hyl := hys.len
    have hge : ¬ ((i : Int) < ys.length) := by omega
    have e0 : ts.drop i = [] := List.drop_eq_nil_of_le (by omega)
    rw [evC_loop, e0]
    simp only [evC_exit, evC_region, evC_seq, ev_t, putS_some, ops_nil, evC_condC, cond_bool, ops_cons, next_some, then_norm, then_exit, Option.map_some, evalOp, ↓reduceIte, reduceCtorEq, binA, binC, intBin, or_false, or_true, and_true, decide_false, eq_self, Bool.false_eq_true, post_some, upd_at, l47_2, h73, h74, hge, ltB]
    exact hJ
  | n + 1, i, hi, J, hJ, σ, h1, h8, h72, h73, h74 => by
    have hil : i < ts.length := by omega
    have hyl := hys.len
    have hiy : i < ys.length := by omega
    have hlty : (i : Int) < ys.length := by omega
    obtain ⟨id, hv, hbl, hO⟩ := hys.lies (by omega)
    have hpr := hys.pr hiy hil
    have hyN := hys.2.1 _ (List.getElem_mem hiy)
    have okt := hok _ (List.getElem_mem hil)
    have step := loop47_2 (a := a) (q := q) (cap := cap) hts tfew hys hok n (i + 1) (by omega)
    subst hv
    have hblJ := hJ.get hbl
    have hle : i * 18 + 18 ≤ (hrows ys).length := by
      rw [show (hrows ys).length = ys.length * 18 from rows_len hfr_len]; omega
    have hcut : ((hrows ys).drop (i * 18)).take 18 = hfr (ys[i]'hiy) := rows_cut hfr_len hiy
    rw [evC_loop, ltB_step hil]
    obtain ⟨y, hy⟩ : ∃ y, y = ys[i]'hiy := ⟨_, rfl⟩
    rw [← hy] at hpr hyN hcut
    have oky : okF y = true := by rw [← hpr] at okt; exact okt
    rw [← hpr]
    have hyJ := ((hyN.pre hJ).at_).pre (pre_app (t := [hfb y]))
    obtain ⟨c, J1, e83, p83, o83⟩ := run83 hyJ oky
    have nw := TsNw.of o83
    have hmem := fun t (h : t ∈ waysP y.pr) => ways_mem (p := y.pr) (okP_few oky) h
    have wfew := ways_few (p := y.pr) (okP_few oky)
    obtain ⟨q', cap', rfl, hws⟩ := nw.at_
    have pJ1 : Pre G J1 := hJ.trans (pre_app.trans p83)
    have gb := p83.get (show AHeap.get (J ++ [hfb y]) J.length = hfb y by rw [get_app0]; rfl)
    have key := fun S => loop47_1 oky (b := J.length) (hyN.pre pJ1).at_ gb (a := a) (q := q) (q' := q') (cap := cap) (cap' := cap') (hts.pre pJ1) hil hws wfew hmem (waysP y.pr).length 0 (by omega) J1 .refl S
    have hl := hfr_len y
    have htk := hfr_t (h := y)
    have hoy := hfr_ok (h := y)
    obtain ⟨R, hR⟩ : ∃ R, R = hfr y := ⟨_, rfl⟩
    simp only [hfb, ← hR] at e83 hl htk hoy hcut
    simp (maxSteps := 4000000) (disch := first | omega | (refine _root_.id ?_; simp only [pl_int, pl_bool, pl_str, pl_undef, pl_nil, pl_ptr, plA_c, plA_agg, plA_tup, plV_c, plV_agg, List.all_cons, List.all_nil, Bool.and_true, Bool.and_self, eq_self, vi_int, vi_bool, get_app, get_app0, List.getElem?_cons_zero, List.getElem?_cons_succ, Option.join_some, lst_get, getL, upd_at, upd_ne, Nat.reduceBEq])) only [evC_skip, evC_region, evC_seq, evC_block, ev_t, ev_k, putS_some, putS_none, ops_nil, evC_condC, cond_bool, ops_cons, next_some, then_norm, Option.map_some, evalOp, AV.cells?, readCells, writeCells, get_app0, set_app0, List.getElem?_cons_zero, Option.join_some, List.length_cons, List.length_nil, List.nil_append, Nat.zero_add, Nat.reduceAdd, List.drop_zero, List.drop_succ_cons, List.take_zero, List.drop_nil, ↓reduceIte, reduceCtorEq, binA, binC, intBin, or_false, or_true, decide_true, and_self, eq_self, List.map_cons, List.map_nil, List.append_nil, setAt, List.set_cons_zero, upd_at, upd_ne, cast_nonneg, cast_toNat, l47_2, h72, h73, h74, hlty, hblJ, hle, hcut, hl, htk, hoy, Nat.le_refl, e83]
    obtain ⟨ex, σ', J2, eL, pL, hL⟩ := key (upd (upd (upd (upd (upd (upd (upd (upd (upd (upd σ 75 (.c (.bool true))) 76 (.c (.int .i64 i))) 77 (.c (.ptr (some (id, i * 18))))) 78 (.agg R)) 15 (.c (.ptr (some (J.length, 0))))) 14 (.c (.int .i64 i))) 79 (.agg R)) 80 (.c (.slice q' (waysP y.pr).length cap'))) 81 (.c (.int .i64 (waysP y.pr).length))) 82 (.c (.int .i64 0))) (by simp only [upd_ne, Nat.reduceBEq, h1]) (by simp only [upd_ne, Nat.reduceBEq, h8]) (by simp only [upd_at, upd_ne, Nat.reduceBEq]) (by simp only [upd_at, upd_ne, Nat.reduceBEq]) (by simp only [upd_at, upd_ne, Nat.reduceBEq]) (by simp only [upd_at, upd_ne, Nat.reduceBEq]) (by simp only [upd_at]; rfl)
    rw [eL]
    clear key eL
    rw [List.drop_zero] at hL
    have pJ2 : Pre G J2 := pJ1.trans pL
    cases hw : ltA y.pr a (waysP y.pr) with
    | some w =>
      rw [hw] at hL
      obtain ⟨rfl, s7, c, s6, n6⟩ := hL
      simp (maxSteps := 4000000) (disch := first | omega | (refine _root_.id ?_; simp only [pl_int, pl_bool, pl_str, pl_undef, pl_nil, pl_ptr, plA_c, plA_agg, plA_tup, plV_c, plV_agg, List.all_cons, List.all_nil, Bool.and_true, Bool.and_self, eq_self, vi_int, vi_bool, get_app, get_app0, List.getElem?_cons_zero, List.getElem?_cons_succ, Option.join_some, lst_get, getL, upd_at, upd_ne, Nat.reduceBEq])) only [then_ret, out_ret, true_and, eq_self, post_some]
      exact ⟨pJ2, s7, c, s6, n6.base pJ1⟩
    | none =>
      rw [hw] at hL
      obtain ⟨rfl, s1', s8, s72, s73, s74⟩ := hL
      have s72 : σ' 72 = .c (.slice (some (id, 0)) ys.length (.toEnd 18)) := s72.trans (by simp only [upd_ne, Nat.reduceBEq, h72])
      have s73 : σ' 73 = .c (.int .i64 ys.length) := s73.trans (by simp only [upd_ne, Nat.reduceBEq, h73])
      have s74 : σ' 74 = .c (.int .i64 i) := s74.trans (by simp only [upd_ne, Nat.reduceBEq, h74])
      simp (maxSteps := 4000000) (disch := first | omega | (refine _root_.id ?_; simp only [pl_int, pl_bool, pl_str, pl_undef, pl_nil, pl_ptr, plA_c, plA_agg, plA_tup, plV_c, plV_agg, List.all_cons, List.all_nil, Bool.and_true, Bool.and_self, eq_self, vi_int, vi_bool, get_app, get_app0, List.getElem?_cons_zero, List.getElem?_cons_succ, Option.join_some, lst_get, getL, upd_at, upd_ne, Nat.reduceBEq])) only [evC_region, ev_t, ev_k, putS_some, ops_nil, ops_cons, next_some, then_norm, out_norm, out_exit, Option.map_some, evalOp, ↓reduceIte, reduceCtorEq, binA, binC, intBin, or_false, or_true, eq_self, IntWalk.i64_in, upd_at, s74]
      exact step J2 pJ2 _ (by simp only [upd_ne, Nat.reduceBEq, s1']) (by simp only [upd_ne, Nat.reduceBEq, s8]) (by simp only [upd_ne, Nat.reduceBEq, s72]) (by simp only [upd_ne, Nat.reduceBEq, s73]) (by simp only [upd_at]; rfl)
theorem run47 {h : Hf} {a m : Int} {H : AHeap} (hh : HfAt H h) : ∃ c J, ev kk 47 [.agg (hfr h), .c (.int .i64 a), .c (.int .i64 m)] H = some (.tup [.c c, .c (.int .i64 (ltR h.pr a m).2)], J) ∧ Pre H J ∧ TsNw H J c (ltR h.pr a m).1 := by
  have hA := hh.app [hfb h]
  have b0 : AHeap.get (H ++ [hfb h]) H.length = hfb h := by rw [get_app0]; rfl
  have r59 := v70 hA
  have r88 := fun T => run88 a (H ++ T)
  have hl := hfr_len h
  have htk := hfr_t (h := h)
  unfold ltR
  rw [show okP h.pr = okF h from rfl]
  rw [ev_call c47]; unfold k47; rw [evB_eq rfl]
  cases ok : okF h
  · rw [ok] at r59
    obtain ⟨R, hR⟩ : ∃ R, R = hfr h := ⟨_, rfl⟩
    simp only [hfb, ← hR] at r59 hl htk ⊢
    simp (maxSteps := 4000000) (disch := first | omega | (refine _root_.id ?_; simp only [pl_int, pl_bool, pl_str, pl_undef, pl_nil, pl_ptr, plA_c, plA_agg, plA_tup, plV_c, plV_agg, List.all_cons, List.all_nil, Bool.and_true, Bool.and_self, eq_self, vi_int, vi_bool, get_app, get_app0, List.getElem?_cons_zero, List.getElem?_cons_succ, Option.join_some, lst_get, getL, upd_at, upd_ne, Nat.reduceBEq])) only [evC_ret, evC_region, evC_seq, evC_block, ev_t, ev_k, putS_some, upd_l, ops_nil, evC_condC, cond_bool, ops_cons, next_some, then_norm, then_ret, out_ret, done_ret, putL, getL, Option.bind_some, Option.map_some, evalOp, AV.cells?, readCells, get_app0, List.getElem?_cons_zero, Option.join_some, Nat.zero_add, List.drop_zero, ↓reduceIte, evalRs, evalR, AV.toV0?, mkRes, V0.toAV, lst_get, eq_self, Bool.not_false, Bool.false_eq_true, List.map_cons, List.map_nil, List.append_nil, unA, finish_no, hl, htk, Nat.le_refl, r59]
    exact ⟨_, _, rfl, pre_app, TsNw.nil⟩
  rw [ok] at r59
  rw [if_pos rfl]
  by_cases hm0 : m < 0
  · rw [if_neg (fun h => by omega)]
    obtain ⟨R, hR⟩ : ∃ R, R = hfr h := ⟨_, rfl⟩
    simp only [hfb, ← hR] at r59 hl htk ⊢
    simp (maxSteps := 4000000) (disch := first | omega | (refine _root_.id ?_; simp only [pl_int, pl_bool, pl_str, pl_undef, pl_nil, pl_ptr, plA_c, plA_agg, plA_tup, plV_c, plV_agg, List.all_cons, List.all_nil, Bool.and_true, Bool.and_self, eq_self, vi_int, vi_bool, get_app, get_app0, List.getElem?_cons_zero, List.getElem?_cons_succ, Option.join_some, lst_get, getL, upd_at, upd_ne, Nat.reduceBEq])) only [evC_ret, evC_region, evC_seq, evC_block, ev_t, ev_k, putS_some, upd_l, ops_nil, ops_consg, guard_bool, evC_condC, cond_bool, ops_cons, next_some, then_norm, then_ret, out_ret, done_ret, putL, getL, Option.bind_some, Option.map_some, evalOp, AV.cells?, readCells, get_app0, List.getElem?_cons_zero, Option.join_some, Nat.zero_add, List.drop_zero, ↓reduceIte, reduceCtorEq, binA, binC, intBin, or_false, or_true, evalRs, evalR, AV.toV0?, mkRes, V0.toAV, decide_true, lst_get, eq_self, Bool.not_true, Bool.not_false, Bool.true_eq_false, Bool.false_eq_true, List.map_cons, List.map_nil, List.append_nil, unA, finish_no, hl, htk, Nat.le_refl, r59, hm0]
    exact ⟨_, _, rfl, pre_app, TsNw.nil⟩
  by_cases hm2 : 2 < m
  · rw [if_neg (fun h => by omega)]
    obtain ⟨R, hR⟩ : ∃ R, R = hfr h := ⟨_, rfl⟩
    simp only [hfb, ← hR] at r59 hl htk ⊢
    simp (maxSteps := 4000000) (disch := first | omega | (refine _root_.id ?_; simp only [pl_int, pl_bool, pl_str, pl_undef, pl_nil, pl_ptr, plA_c, plA_agg, plA_tup, plV_c, plV_agg, List.all_cons, List.all_nil, Bool.and_true, Bool.and_self, eq_self, vi_int, vi_bool, get_app, get_app0, List.getElem?_cons_zero, List.getElem?_cons_succ, Option.join_some, lst_get, getL, upd_at, upd_ne, Nat.reduceBEq])) only [evC_ret, evC_region, evC_seq, evC_block, ev_t, ev_k, putS_some, upd_l, ops_nil, ops_consg, guard_bool, evC_condC, cond_bool, ops_cons, next_some, then_norm, then_ret, out_ret, done_ret, putL, getL, Option.bind_some, Option.map_some, evalOp, AV.cells?, readCells, get_app0, List.getElem?_cons_zero, Option.join_some, Nat.zero_add, List.drop_zero, ↓reduceIte, reduceCtorEq, binA, binC, intBin, or_false, or_true, evalRs, evalR, AV.toV0?, mkRes, V0.toAV, decide_true, decide_false, lst_get, eq_self, Bool.not_true, Bool.not_false, Bool.true_eq_false, Bool.false_eq_true, List.map_cons, List.map_nil, List.append_nil, unA, finish_no, hl, htk, Nat.le_refl, r59, hm0, hm2]
    exact ⟨_, _, rfl, pre_app, TsNw.nil⟩
  have hm : 0 ≤ m ∧ m ≤ 2 := by omega
  cases ham : amt a
  · rw [ham] at r88
    rw [if_neg (fun h => by cases h.2)]
    obtain ⟨R, hR⟩ : ∃ R, R = hfr h := ⟨_, rfl⟩
    simp only [hfb, ← hR] at r59 hl htk ⊢
    simp (maxSteps := 4000000) (disch := first | omega | (refine _root_.id ?_; simp only [pl_int, pl_bool, pl_str, pl_undef, pl_nil, pl_ptr, plA_c, plA_agg, plA_tup, plV_c, plV_agg, List.all_cons, List.all_nil, Bool.and_true, Bool.and_self, eq_self, vi_int, vi_bool, get_app, get_app0, List.getElem?_cons_zero, List.getElem?_cons_succ, Option.join_some, lst_get, getL, upd_at, upd_ne, Nat.reduceBEq])) only [evC_ret, evC_region, evC_seq, evC_block, ev_t, ev_k, putS_some, upd_l, ops_nil, ops_consg, guard_bool, evC_condC, cond_bool, ops_cons, next_some, then_norm, then_ret, out_ret, done_ret, putL, getL, Option.bind_some, Option.map_some, evalOp, AV.cells?, readCells, get_app0, List.getElem?_cons_zero, Option.join_some, Nat.zero_add, List.drop_zero, ↓reduceIte, reduceCtorEq, binA, binC, intBin, or_false, or_true, evalRs, evalR, AV.toV0?, mkRes, V0.toAV, decide_false, lst_get, eq_self, Bool.not_true, Bool.not_false, Bool.false_eq_true, List.map_cons, List.map_nil, List.append_nil, unA, finish_no, hl, htk, Nat.le_refl, r59, hm0, hm2, r88]
    exact ⟨_, _, rfl, pre_app, TsNw.nil⟩
  rw [ham] at r88
  rw [if_pos ⟨hm, rfl⟩]
  have s1 := run54 ok hA
  by_cases hs : sumN h.xs = a
  · rw [if_pos hs]
    have hs' : (sumN h.xs == a) = true := by simpa using hs
    obtain ⟨R, hR⟩ : ∃ R, R = hfr h := ⟨_, rfl⟩
    simp only [hfb, ← hR] at r59 hl htk s1 ⊢
    simp (maxSteps := 4000000) (disch := first | omega | (refine _root_.id ?_; simp only [pl_int, pl_bool, pl_str, pl_undef, pl_nil, pl_ptr, plA_c, plA_agg, plA_tup, plV_c, plV_agg, List.all_cons, List.all_nil, Bool.and_true, Bool.and_self, eq_self, vi_int, vi_bool, get_app, get_app0, List.getElem?_cons_zero, List.getElem?_cons_succ, Option.join_some, lst_get, getL, upd_at, upd_ne, Nat.reduceBEq])) only [evC_ret, evC_region, evC_seq, evC_block, ev_t, ev_k, putS_some, upd_l, ops_nil, ops_consg, guard_bool, evC_condC, cond_bool, ops_cons, next_some, then_norm, then_ret, out_ret, done_ret, putL, getL, Option.bind_some, Option.map_some, evalOp, AV.cells?, readCells, get_app0, List.getElem?_cons_zero, Option.join_some, Nat.zero_add, List.drop_zero, ↓reduceIte, reduceCtorEq, binA, binC, intBin, or_false, or_true, evalRs, evalR, AV.toV0?, mkRes, V0.toAV, decide_false, lst_get, eq_self, Bool.not_true, Bool.false_eq_true, List.map_cons, List.map_nil, List.append_nil, unA, finish_no, hl, htk, Nat.le_refl, r59, hm0, hm2, r88, s1, hs']
    exact ⟨_, _, rfl, pre_app, TsNw.nil⟩
  rw [if_neg hs]
  have hs' : (sumN h.xs == a) = false := by simpa using hs
  by_cases hz : m = 0
  · rw [if_pos hz]
    have hz' : (m == 0) = true := by simpa using hz
    obtain ⟨R, hR⟩ : ∃ R, R = hfr h := ⟨_, rfl⟩
    simp only [hfb, ← hR] at r59 hl htk s1 ⊢
    simp (maxSteps := 4000000) (disch := first | omega | (refine _root_.id ?_; simp only [pl_int, pl_bool, pl_str, pl_undef, pl_nil, pl_ptr, plA_c, plA_agg, plA_tup, plV_c, plV_agg, List.all_cons, List.all_nil, Bool.and_true, Bool.and_self, eq_self, vi_int, vi_bool, get_app, get_app0, List.getElem?_cons_zero, List.getElem?_cons_succ, Option.join_some, lst_get, getL, upd_at, upd_ne, Nat.reduceBEq])) only [evC_ret, evC_region, evC_seq, evC_block, ev_t, ev_k, putS_some, upd_l, ops_nil, ops_consg, guard_bool, evC_condC, cond_bool, ops_cons, next_some, then_norm, then_ret, out_ret, done_ret, putL, getL, Option.bind_some, Option.map_some, evalOp, AV.cells?, readCells, get_app0, List.getElem?_cons_zero, Option.join_some, Nat.zero_add, List.drop_zero, ↓reduceIte, reduceCtorEq, binA, binC, intBin, or_false, or_true, evalRs, evalR, AV.toV0?, mkRes, V0.toAV, decide_false, lst_get, eq_self, Bool.not_true, Bool.false_eq_true, List.map_cons, List.map_nil, List.append_nil, unA, finish_no, hl, htk, Nat.le_refl, r59, hm0, hm2, r88, s1, hs', hz']
    exact ⟨_, _, rfl, pre_app, TsNw.nil⟩
  rw [if_neg hz]
  have hz' : (m == 0) = false := by simpa using hz
  obtain ⟨c, J, e1, p1, o1⟩ := run83 hA ok
  have nw := TsNw.of o1
  have hmem := fun t (q : t ∈ waysP h.pr) => ways_mem (p := h.pr) (okP_few ok) q
  have wfew := ways_few (p := h.pr) (okP_few ok)
  obtain ⟨G, hG⟩ : ∃ G, G = J ++ [some ⟨36, [], .own⟩] := ⟨_, rfl⟩
  have pG : Pre J G := by rw [hG]; exact pre_app
  obtain ⟨q, cap, rfl, hts⟩ := nw.at_
  have pHG : Pre H G := pre_app.trans (p1.trans pG)
  have L := fun σ => loop47_0 ok (hA.pre (p1.trans pG)) ((p1.trans pG).get b0) (a := a) (q := q) (cap := cap) (hts.pre pG) wfew hmem (waysP h.pr).length 0 (by omega) G .refl (.c (.slice (some (J.length, 0)) 0 (.exact 0))) [] ⟨rfl, fun y hy => by simp at hy, .inl ⟨rfl, rfl, _, rfl⟩⟩ σ
  rw [List.drop_zero] at L
  have hokw : ∀ t ∈ waysP h.pr, okP (tmR h.pr t).1 = true := fun t ht => tm_ok (hmem t ht).2
  generalize waysP h.pr = ts at *
  subst hG
  obtain ⟨R, hR⟩ : ∃ R, R = hfr h := ⟨_, rfl⟩
  simp only [hfb, ← hR] at r59 hl htk s1 e1 ⊢
  simp (maxSteps := 4000000) (disch := first | omega | (refine _root_.id ?_; simp only [pl_int, pl_bool, pl_str, pl_undef, pl_nil, pl_ptr, plA_c, plA_agg, plA_tup, plV_c, plV_agg, List.all_cons, List.all_nil, Bool.and_true, Bool.and_self, eq_self, vi_int, vi_bool, get_app, get_app0, List.getElem?_cons_zero, List.getElem?_cons_succ, Option.join_some, lst_get, getL, upd_at, upd_ne, Nat.reduceBEq])) only [evC_skip, evC_region, evC_seq, evC_block, ev_t, ev_k, putS_some, upd_l, ops_nil, ops_consg, guard_bool, evC_condC, cond_bool, ops_cons, next_some, then_norm, out_norm, putL, getL, Option.map_some, evalOp, AV.cells?, readCells, get_app0, List.getElem?_cons_zero, Option.join_some, Nat.zero_add, List.drop_zero, ↓reduceIte, reduceCtorEq, binA, binC, intBin, or_false, or_true, decide_false, lst_get, eq_self, Bool.not_true, Bool.false_eq_true, List.map_cons, List.map_nil, List.append_nil, unA, partsA, fillC, hl, htk, Nat.le_refl, r59, hm0, hm2, r88, s1, hs', hz', e1]
  obtain ⟨ex, σ', J2, eL, pL, hL⟩ := L (lst [.agg R, .c (.int .i64 a), .c (.int .i64 m), .c (.ptr (some (List.length H, 0))), .c .undef, .c .undef, .c (.slice none 0 (.exact 0)), .c (.int .i64 0), .c (.slice q ts.length cap), .c (.slice (some (List.length J, 0)) 0 (.exact 0)), .c .undef, .c .undef, .c .undef, .c .undef, .c .undef, .c .undef, .c .undef, .c .undef, .c .undef, .c .undef, .c (.bool false), .agg R, .c (.bool true), .c (.bool false), .c (.bool false), .c (.int .i64 m), .c (.bool false), .c (.bool false), .c (.int .i64 m), .c (.bool false), .c (.bool false), .c (.bool false), .c (.int .i64 a), .c (.bool true), .c (.bool false), .c (.bool false), .c (.bool false), .agg R, .c (.int .i64 (sumN h.xs)), .c (.int .i64 a), .c (.bool false), .c (.bool false), .c (.int .i64 m), .c (.bool false), .agg R, .c (.slice q ts.length cap), .c (.slice (some (List.length J, 0)) 0 (.exact 0)), .c (.slice q ts.length cap), .c (.int .i64 ts.length), .c (.int .i64 0)]) rfl rfl rfl rfl rfl rfl
  rw [eL]
  clear L eL e1
  have pH2 : Pre H J2 := pHG.trans pL
  cases hA1 : ltA h.pr a ts with
  | some t =>
    rw [hA1] at hL
    obtain ⟨rfl, s7, c, s6, n6⟩ := hL
    simp (maxSteps := 4000000) (disch := first | omega | (refine _root_.id ?_; simp only [pl_int, pl_bool, pl_str, pl_undef, pl_nil, pl_ptr, plA_c, plA_agg, plA_tup, plV_c, plV_agg, List.all_cons, List.all_nil, Bool.and_true, Bool.and_self, eq_self, vi_int, vi_bool, get_app, get_app0, List.getElem?_cons_zero, List.getElem?_cons_succ, Option.join_some, lst_get, getL, upd_at, upd_ne, Nat.reduceBEq])) only [then_ret, out_ret, done_ret, Option.bind_some, evalRs, evalR, AV.toV0?, mkRes, V0.toAV, finish_no, s6, s7]
    exact ⟨_, _, rfl, pH2, n6.base pHG⟩
  | none =>
    rw [hA1] at hL
    obtain ⟨rfl, ⟨ys, hys⟩, s1', s8, s2⟩ := hL
    have s2 : σ' 2 = .c (.int .i64 m) := s2
    have s8 : σ' 8 = .c (.slice q ts.length cap) := s8
    by_cases hm1 : m = 1
    · rw [if_pos hm1]
      have hm1' : (m == 1) = true := by simpa using hm1
      simp (maxSteps := 4000000) (disch := first | omega | (refine _root_.id ?_; simp only [pl_int, pl_bool, pl_str, pl_undef, pl_nil, pl_ptr, plA_c, plA_agg, plA_tup, plV_c, plV_agg, List.all_cons, List.all_nil, Bool.and_true, Bool.and_self, eq_self, vi_int, vi_bool, get_app, get_app0, List.getElem?_cons_zero, List.getElem?_cons_succ, Option.join_some, lst_get, getL, upd_at, upd_ne, Nat.reduceBEq])) only [evC_ret, evC_region, evC_seq, ev_t, ev_k, putS_some, ops_nil, evC_condC, cond_bool, ops_cons, next_some, then_norm, then_ret, out_exit, done_ret, Option.bind_some, Option.map_some, evalOp, ↓reduceIte, reduceCtorEq, binA, binC, intBin, or_false, or_true, evalRs, evalR, AV.toV0?, mkRes, V0.toAV, eq_self, finish_no, upd_at, upd_ne, s2, hm1']
      exact ⟨_, _, rfl, pH2, TsNw.nil⟩
    · rw [if_neg hm1]
      have hm1' : (m == 1) = false := by simpa using hm1
      obtain ⟨q9, c9, hv⟩ := hys.2.2.isC
      simp (maxSteps := 4000000) (disch := first | omega | (refine _root_.id ?_; simp only [pl_int, pl_bool, pl_str, pl_undef, pl_nil, pl_ptr, plA_c, plA_agg, plA_tup, plV_c, plV_agg, List.all_cons, List.all_nil, Bool.and_true, Bool.and_self, eq_self, vi_int, vi_bool, get_app, get_app0, List.getElem?_cons_zero, List.getElem?_cons_succ, Option.join_some, lst_get, getL, upd_at, upd_ne, Nat.reduceBEq])) only [evC_skip, evC_region, evC_seq, evC_block, ev_t, ev_k, putS_some, ops_nil, evC_condC, cond_bool, ops_cons, next_some, then_norm, out_exit, Option.map_some, evalOp, ↓reduceIte, reduceCtorEq, binA, binC, intBin, or_false, or_true, eq_self, Bool.false_eq_true, upd_at, upd_ne, s2, hm1', hv]
      have L2 := fun σ => loop47_2 (σ := σ) (a := a) (q := q) (cap := cap) ((hts.pre pG).pre pL) wfew hys hokw ts.length 0 (by omega) J2 .refl
      obtain ⟨ex2, σ2, J3, eL2, p3, hL2⟩ := L2 (upd (upd (upd (upd (upd σ' 70 (.c (.int .i64 m))) 71 (.c (.bool false))) 72 (.c (.slice q9 ys.length c9))) 73 (.c (.int .i64 ys.length))) 74 (.c (.int .i64 0))) (by simp only [upd_ne, Nat.reduceBEq, s1']) (by simp only [upd_ne, Nat.reduceBEq, s8]) (by simp only [upd_at, upd_ne, Nat.reduceBEq, hv]) (by simp only [upd_at, upd_ne, Nat.reduceBEq]) (by simp only [upd_at]; rfl)
      rw [eL2]
      rw [List.drop_zero] at hL2
      cases hB : ltB h.pr a ts with
      | some tw =>
        obtain ⟨t, w⟩ := tw
        rw [hB] at hL2
        obtain ⟨rfl, s7, c, s6, n6⟩ := hL2
        simp (maxSteps := 4000000) (disch := first | omega | (refine _root_.id ?_; simp only [pl_int, pl_bool, pl_str, pl_undef, pl_nil, pl_ptr, plA_c, plA_agg, plA_tup, plV_c, plV_agg, List.all_cons, List.all_nil, Bool.and_true, Bool.and_self, eq_self, vi_int, vi_bool, get_app, get_app0, List.getElem?_cons_zero, List.getElem?_cons_succ, Option.join_some, lst_get, getL, upd_at, upd_ne, Nat.reduceBEq])) only [then_ret, out_ret, done_ret, Option.bind_some, evalRs, evalR, AV.toV0?, mkRes, V0.toAV, finish_no, s6, s7]
        exact ⟨_, _, rfl, pH2.trans p3, n6.base pH2⟩
      | none =>
        rw [hB] at hL2
        obtain rfl := hL2
        simp (maxSteps := 4000000) (disch := first | omega | (refine _root_.id ?_; simp only [pl_int, pl_bool, pl_str, pl_undef, pl_nil, pl_ptr, plA_c, plA_agg, plA_tup, plV_c, plV_agg, List.all_cons, List.all_nil, Bool.and_true, Bool.and_self, eq_self, vi_int, vi_bool, get_app, get_app0, List.getElem?_cons_zero, List.getElem?_cons_succ, Option.join_some, lst_get, getL, upd_at, upd_ne, Nat.reduceBEq])) only [evC_ret, evC_region, evC_seq, ev_k, putS_some, ops_nil, ops_cons, next_some, then_norm, out_exit, done_ret, Option.bind_some, Option.map_some, evalOp, ↓reduceIte, evalRs, evalR, AV.toV0?, mkRes, V0.toAV, eq_self, finish_no, upd_at, upd_ne]
        exact ⟨_, _, rfl, pH2.trans p3, TsNw.nil⟩
end Go.Proofs.Ytnblibimbggheaa
