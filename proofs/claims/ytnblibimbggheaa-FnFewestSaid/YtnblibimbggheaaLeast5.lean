/- What functions of the program answer: part Least5. -/
import Derived.Test.YtnblibimbggheaaLeast4
set_option linter.unusedVariables false
set_option linter.unusedSimpArgs false
set_option linter.unusedSectionVars false
namespace Go.Proofs.Ytnblibimbggheaa
open Go Go.Proofs.Ytnblibimbggheaa.VI
set_option maxHeartbeats 16000000
set_option maxRecDepth 20000
theorem loop46_2n {J : AHeap} {m : Int} {n : Nat} {q : Option (Nat × Nat)} {cap : Cap} (hm : m ≠ 2) (σ : Sl) (h2 : σ 2 = .c (.int .i64 m)) (h8 : σ 8 = .c (.slice q n cap)) (h13 : σ 13 = .c (.int .i64 0)) : Post (evC (ev kk) (.loop l46_2) (σ, J)) fun ex σ' H' => ex = .exit 2 ∧ H' = J := by
  have hm' : (m == 2) = false := by simpa using hm
  rw [evC_loop]
  by_cases h0 : (0 : Int) < n
  · simp only [evC_exit, evC_region, evC_seq, ev_t, ev_k, putS_some, ops_nil, ops_consg, guard_bool, evC_condC, cond_bool, ops_cons, next_some, then_norm, then_exit, Option.map_some, evalOp, ↓reduceIte, reduceCtorEq, binA, binC, intBin, or_false, or_true, decide_true, and_self, eq_self, Bool.false_eq_true, Nat.reduceBEq, post_some, upd_at, upd_ne, l46_2, h2, h8, h13, h0, hm']
  · simp only [evC_exit, evC_region, evC_seq, ev_t, ev_k, putS_some, ops_nil, ops_consg, guard_bool, evC_condC, cond_bool, ops_cons, next_some, then_norm, then_exit, Option.map_some, evalOp, ↓reduceIte, reduceCtorEq, binA, binC, intBin, or_false, or_true, decide_false, and_self, eq_self, Bool.not_true, Bool.false_eq_true, Nat.reduceBEq, post_some, upd_at, upd_ne, l46_2, h8, h13, h0]
theorem run46 {h : Hf} {a m : Int} {H : AHeap} (hh : HfAt H h) : ∃ c J, ev kk 46 [.agg (hfr h), .c (.int .i64 a), .c (.int .i64 m)] H = some (.tup [.c c, .c (.int .i64 (ltR h.pr a m).2)], J) ∧ Pre H J ∧ TsNw H J c (ltR h.pr a m).1 := by
  have hA := hh.app [hfb h]
  have b0 : AHeap.get (H ++ [hfb h]) H.length = hfb h := by rw [get_app0]; rfl
  have r57 := v66 hA b0
  have r75 := fun T => run75 m 0 2 (H ++ T)
  have r87 := fun T => run87 a (H ++ T)
  have hR1 : (hfr h)[1]? = some (.slice h.p h.xs.length h.cap) := rfl
  unfold ltR
  rw [show okP h.pr = okF h from rfl]
  rw [ev_call c46]; unfold k46; rw [evB_eq rfl]
  cases ok : okF h
  · rw [ok] at r57
    obtain ⟨R, hR⟩ : ∃ R, R = hfr h := ⟨_, rfl⟩
    simp only [hfb, ← hR] at r57 hR1 ⊢
    simp (maxSteps := 4000000) (disch := first | omega | (refine _root_.id ?_; simp only [pl_int, pl_bool, pl_str, pl_undef, pl_nil, pl_ptr, plA_c, plA_agg, plA_tup, plV_c, plV_agg, List.all_cons, List.all_nil, Bool.and_true, Bool.and_self, eq_self, vi_int, vi_bool, get_app, get_app0, List.getElem?_cons_zero, List.getElem?_cons_succ, Option.join_some, lst_get, getL, upd_at, upd_ne, Nat.reduceBEq])) only [evC_ret, evC_region, evC_seq, ev_t, ev_k, putS_some, upd_l, ops_nil, evC_condC, cond_bool, ops_cons, next_some, then_norm, then_ret, done_ret, putL, getL, Option.bind_some, Option.map_some, evalOp, AV.cells?, len_app, List.length_cons, List.length_nil, List.append_assoc, List.cons_append, List.nil_append, Nat.zero_add, ↓reduceIte, evalRs, evalR, AV.toV0?, mkRes, V0.toAV, lst_get, eq_self, Bool.not_false, Bool.false_eq_true, List.map_cons, List.map_nil, List.append_nil, unA, partsA, fillC, finish_no, r57]
    exact ⟨_, _, rfl, pre_app, TsNw.nil⟩
  rw [ok] at r57
  rw [if_pos rfl]
  by_cases hm : 0 ≤ m ∧ m ≤ 2
  rotate_left
  · rw [if_neg (fun h => hm h.1)]
    obtain ⟨R, hR⟩ : ∃ R, R = hfr h := ⟨_, rfl⟩
    simp only [hfb, ← hR] at r57 hR1 ⊢
    simp (maxSteps := 4000000) (disch := first | omega | (refine _root_.id ?_; simp only [pl_int, pl_bool, pl_str, pl_undef, pl_nil, pl_ptr, plA_c, plA_agg, plA_tup, plV_c, plV_agg, List.all_cons, List.all_nil, Bool.and_true, Bool.and_self, eq_self, vi_int, vi_bool, get_app, get_app0, List.getElem?_cons_zero, List.getElem?_cons_succ, Option.join_some, lst_get, getL, upd_at, upd_ne, Nat.reduceBEq])) only [evC_skip, evC_ret, evC_region, evC_seq, ev_t, ev_k, putS_some, upd_l, ops_nil, ops_consg, guard_bool, evC_condC, cond_bool, ops_cons, next_some, then_norm, then_ret, done_ret, putL, getL, Option.bind_some, Option.map_some, evalOp, AV.cells?, len_app, List.length_cons, List.length_nil, List.append_assoc, List.cons_append, List.nil_append, Nat.zero_add, ↓reduceIte, evalRs, evalR, AV.toV0?, mkRes, V0.toAV, decide_false, lst_get, eq_self, Bool.not_true, Bool.not_false, Bool.true_eq_false, Bool.false_eq_true, List.map_cons, List.map_nil, List.append_nil, unA, partsA, fillC, finish_no, r57, r75, hm]
    exact ⟨_, _, rfl, pre_app, TsNw.nil⟩
  cases ham : amt a
  · rw [ham] at r87
    rw [if_neg (fun h => by cases h.2)]
    obtain ⟨R, hR⟩ : ∃ R, R = hfr h := ⟨_, rfl⟩
    simp only [hfb, ← hR] at r57 hR1 ⊢
    simp (maxSteps := 4000000) (disch := first | omega | (refine _root_.id ?_; simp only [pl_int, pl_bool, pl_str, pl_undef, pl_nil, pl_ptr, plA_c, plA_agg, plA_tup, plV_c, plV_agg, List.all_cons, List.all_nil, Bool.and_true, Bool.and_self, eq_self, vi_int, vi_bool, get_app, get_app0, List.getElem?_cons_zero, List.getElem?_cons_succ, Option.join_some, lst_get, getL, upd_at, upd_ne, Nat.reduceBEq])) only [evC_skip, evC_ret, evC_region, evC_seq, ev_t, ev_k, putS_some, upd_l, ops_nil, ops_consg, guard_bool, evC_condC, cond_bool, ops_cons, next_some, then_norm, then_ret, done_ret, putL, getL, Option.bind_some, Option.map_some, evalOp, AV.cells?, len_app, List.length_cons, List.length_nil, List.append_assoc, List.cons_append, List.nil_append, Nat.zero_add, ↓reduceIte, evalRs, evalR, AV.toV0?, mkRes, V0.toAV, decide_true, and_self, lst_get, eq_self, Bool.not_true, Bool.not_false, Bool.false_eq_true, List.map_cons, List.map_nil, List.append_nil, unA, partsA, fillC, finish_no, r57, r75, hm, r87]
    exact ⟨_, _, rfl, pre_app, TsNw.nil⟩
  rw [ham] at r87
  rw [if_pos ⟨hm, rfl⟩]
  have s1 := run51 ok hA
  by_cases hs : sumN h.xs = a
  · rw [if_pos hs]
    have hs' : (sumN h.xs == a) = true := by simpa using hs
    obtain ⟨R, hR⟩ : ∃ R, R = hfr h := ⟨_, rfl⟩
    simp only [hfb, ← hR] at r57 hR1 s1 ⊢
    simp (maxSteps := 4000000) (disch := first | omega | (refine _root_.id ?_; simp only [pl_int, pl_bool, pl_str, pl_undef, pl_nil, pl_ptr, plA_c, plA_agg, plA_tup, plV_c, plV_agg, List.all_cons, List.all_nil, Bool.and_true, Bool.and_self, eq_self, vi_int, vi_bool, get_app, get_app0, List.getElem?_cons_zero, List.getElem?_cons_succ, Option.join_some, lst_get, getL, upd_at, upd_ne, Nat.reduceBEq])) only [evC_skip, evC_ret, evC_region, evC_seq, ev_t, ev_k, putS_some, upd_l, ops_nil, ops_consg, guard_bool, evC_condC, cond_bool, ops_cons, next_some, then_norm, then_ret, done_ret, putL, getL, Option.bind_some, Option.map_some, evalOp, AV.cells?, readCell, get_app0, len_app, List.getElem?_cons_zero, Option.join_some, List.length_cons, List.length_nil, List.append_assoc, List.cons_append, List.nil_append, Nat.zero_add, ↓reduceIte, reduceCtorEq, binA, binC, intBin, or_false, or_true, evalRs, evalR, AV.toV0?, mkRes, V0.toAV, decide_true, and_self, lst_get, eq_self, Bool.not_true, Bool.false_eq_true, List.map_cons, List.map_nil, List.append_nil, unA, partsA, fillC, finish_no, r57, r75, hm, r87, hR1, s1, hs']
    exact ⟨_, _, rfl, pre_app, TsNw.nil⟩
  rw [if_neg hs]
  have hs' : (sumN h.xs == a) = false := by simpa using hs
  by_cases hm0 : m = 0
  · rw [if_pos hm0]
    have hm0' : (m == 0) = true := by simpa using hm0
    obtain ⟨R, hR⟩ : ∃ R, R = hfr h := ⟨_, rfl⟩
    simp only [hfb, ← hR] at r57 hR1 s1 ⊢
    simp (maxSteps := 4000000) (disch := first | omega | (refine _root_.id ?_; simp only [pl_int, pl_bool, pl_str, pl_undef, pl_nil, pl_ptr, plA_c, plA_agg, plA_tup, plV_c, plV_agg, List.all_cons, List.all_nil, Bool.and_true, Bool.and_self, eq_self, vi_int, vi_bool, get_app, get_app0, List.getElem?_cons_zero, List.getElem?_cons_succ, Option.join_some, lst_get, getL, upd_at, upd_ne, Nat.reduceBEq])) only [evC_skip, evC_ret, evC_region, evC_seq, ev_t, ev_k, putS_some, upd_l, ops_nil, ops_consg, guard_bool, evC_condC, cond_bool, ops_cons, next_some, then_norm, then_ret, done_ret, putL, getL, Option.bind_some, Option.map_some, evalOp, AV.cells?, readCell, get_app0, len_app, List.getElem?_cons_zero, Option.join_some, List.length_cons, List.length_nil, List.append_assoc, List.cons_append, List.nil_append, Nat.zero_add, ↓reduceIte, reduceCtorEq, binA, binC, intBin, or_false, or_true, evalRs, evalR, AV.toV0?, mkRes, V0.toAV, decide_true, and_self, lst_get, eq_self, Bool.not_true, Bool.false_eq_true, List.map_cons, List.map_nil, List.append_nil, unA, partsA, fillC, finish_no, r57, r75, hm, r87, hR1, s1, hs', hm0']
    exact ⟨_, _, rfl, pre_app, TsNw.nil⟩
  rw [if_neg hm0]
  have hm0' : (m == 0) = false := by simpa using hm0
  obtain ⟨c, J, e1, p1, o1⟩ := run72 hA ok b0
  have nw := TsNw.of o1
  have hmem := fun t (q : t ∈ waysP h.pr) => ways_mem (p := h.pr) (okP_few ok) q
  have wfew := ways_few (p := h.pr) (okP_few ok)
  obtain ⟨G, hG⟩ : ∃ G, G = J ++ [some ⟨36, [], .own⟩] := ⟨_, rfl⟩
  have pG : Pre J G := by rw [hG]; exact pre_app
  obtain ⟨q, cap, rfl, hts⟩ := nw.at_
  have pHG : Pre H G := pre_app.trans (p1.trans pG)
  have L := fun σ => loop46_0 ok (hA.pre (p1.trans pG)) ((p1.trans pG).get b0) (a := a) (q := q) (cap := cap) (hts.pre pG) wfew hmem (waysP h.pr).length 0 (by omega) G .refl (.c (.slice (some (J.length, 0)) 0 (.exact 0))) [] ⟨rfl, fun y hy => by simp at hy, .inl ⟨rfl, rfl, _, rfl⟩⟩ σ
  rw [List.drop_zero] at L
  have hokw : ∀ t ∈ waysP h.pr, okP (tmR h.pr t).1 = true := fun t ht => tm_ok (hmem t ht).2
  generalize waysP h.pr = ts at *
  subst hG
  obtain ⟨R, hR⟩ : ∃ R, R = hfr h := ⟨_, rfl⟩
  simp only [hfb, ← hR] at r57 hR1 s1 e1 ⊢
  simp (maxSteps := 4000000) (disch := first | omega | (refine _root_.id ?_; simp only [pl_int, pl_bool, pl_str, pl_undef, pl_nil, pl_ptr, plA_c, plA_agg, plA_tup, plV_c, plV_agg, List.all_cons, List.all_nil, Bool.and_true, Bool.and_self, eq_self, vi_int, vi_bool, get_app, get_app0, List.getElem?_cons_zero, List.getElem?_cons_succ, Option.join_some, lst_get, getL, upd_at, upd_ne, Nat.reduceBEq])) only [evC_skip, evC_region, evC_seq, evC_block, ev_t, ev_k, putS_some, upd_l, ops_nil, ops_consg, guard_bool, evC_condC, cond_bool, ops_cons, next_some, then_norm, putL, getL, Option.map_some, evalOp, AV.cells?, readCell, get_app0, List.getElem?_cons_zero, Option.join_some, Nat.zero_add, ↓reduceIte, reduceCtorEq, binA, binC, intBin, or_false, or_true, decide_true, and_self, lst_get, eq_self, Bool.not_true, Bool.false_eq_true, List.map_cons, List.map_nil, List.append_nil, unA, partsA, fillC, r57, r75, hm, r87, hR1, s1, hs', hm0', e1]
  obtain ⟨ex, σ', J2, eL, pL, hL⟩ := L (lst [.agg R, .c (.int .i64 a), .c (.int .i64 m), .c (.ptr (some (List.length H, 0))), .c .undef, .c .undef, .c (.slice none 0 (.exact 0)), .c (.int .i64 0), .c (.slice q ts.length cap), .c (.slice (some (List.length J, 0)) 0 (.exact 0)), .c (.int .i64 0), .c .undef, .c .undef, .c .undef, .c .undef, .c .undef, .c .undef, .c .undef, .c (.bool true), .c (.bool false), .c .undef, .c (.int .i64 m), .c (.bool true), .c (.bool false), .c (.bool false), .c (.int .i64 a), .c (.bool true), .c (.bool false), .c (.bool false), .c .undef, .c (.ptr (some (List.length H, 1))), .c (.slice h.p h.xs.length h.cap), .c (.int .i64 (sumN h.xs)), .c (.int .i64 a), .c (.bool false), .c .undef, .c (.int .i64 m), .c (.bool false), .c .undef, .c (.slice q ts.length cap), .c (.slice (some (List.length J, 0)) 0 (.exact 0))]) rfl rfl rfl rfl rfl
  rw [eL]
  clear L eL e1
  have pH2 : Pre H J2 := pHG.trans pL
  cases hA1 : ltA h.pr a ts with
  | some t =>
    rw [hA1] at hL
    obtain ⟨rfl, s7, c, s6, n6⟩ := hL
    simp (maxSteps := 4000000) (disch := first | omega | (refine _root_.id ?_; simp only [pl_int, pl_bool, pl_str, pl_undef, pl_nil, pl_ptr, plA_c, plA_agg, plA_tup, plV_c, plV_agg, List.all_cons, List.all_nil, Bool.and_true, Bool.and_self, eq_self, vi_int, vi_bool, get_app, get_app0, List.getElem?_cons_zero, List.getElem?_cons_succ, Option.join_some, lst_get, getL, upd_at, upd_ne, Nat.reduceBEq])) only [then_ret, out_ret, done_ret, Option.bind_some, evalRs, evalR, AV.toV0?, mkRes, V0.toAV, finish_no, s6, s7]
    exact ⟨_, _, rfl, pH2, n6.base pHG⟩
  | none =>
    rw [hA1] at hL
    obtain ⟨rfl, ⟨ys, hys⟩, s1', s8, s2⟩ := hL
    have s2 : σ' 2 = .c (.int .i64 m) := s2
    simp (maxSteps := 4000000) (disch := first | omega | (refine _root_.id ?_; simp only [pl_int, pl_bool, pl_str, pl_undef, pl_nil, pl_ptr, plA_c, plA_agg, plA_tup, plV_c, plV_agg, List.all_cons, List.all_nil, Bool.and_true, Bool.and_self, eq_self, vi_int, vi_bool, get_app, get_app0, List.getElem?_cons_zero, List.getElem?_cons_succ, Option.join_some, lst_get, getL, upd_at, upd_ne, Nat.reduceBEq])) only [evC_region, evC_seq, evC_block, ev_k, putS_some, ops_nil, ops_cons, next_some, then_norm, out_exit, Option.map_some, evalOp, ↓reduceIte, eq_self]
    by_cases hm1 : m = 1
    · rw [if_pos hm1]
      obtain ⟨_, σ2, J3, eL2, rfl, rfl⟩ := loop46_2n (J := J2) (m := m) (n := ts.length) (q := q) (cap := cap) (by omega) (upd σ' 13 (.c (.int .i64 0))) (by simp only [upd_ne, Nat.reduceBEq, s2]) (by simp only [upd_ne, Nat.reduceBEq, s8]) (by simp only [upd_at])
      rw [eL2]
      simp (maxSteps := 4000000) (disch := first | omega | (refine _root_.id ?_; simp only [pl_int, pl_bool, pl_str, pl_undef, pl_nil, pl_ptr, plA_c, plA_agg, plA_tup, plV_c, plV_agg, List.all_cons, List.all_nil, Bool.and_true, Bool.and_self, eq_self, vi_int, vi_bool, get_app, get_app0, List.getElem?_cons_zero, List.getElem?_cons_succ, Option.join_some, lst_get, getL, upd_at, upd_ne, Nat.reduceBEq])) only [evC_ret, evC_region, evC_seq, ev_t, ev_k, putS_some, ops_nil, ops_cons, next_some, then_norm, out_exit, done_ret, Option.bind_some, Option.map_some, evalOp, ↓reduceIte, evalRs, evalR, AV.toV0?, mkRes, V0.toAV, eq_self, partsA, fillC, finish_no, upd_at, upd_ne]
      exact ⟨_, _, rfl, pH2.app _, TsNw.nil⟩
    · rw [if_neg hm1]
      have hm2 : m = 2 := by omega
      subst hm2
      obtain ⟨ex2, σ2, J3, eL2, p3, hL2⟩ := loop46_2 (b := H.length) (a := a) (q := q) (cap := cap) ((hts.pre pG).pre pL) wfew hys hokw ts.length 0 (by omega) J2 .refl (upd σ' 13 (.c (.int .i64 0))) (by simp only [upd_ne, Nat.reduceBEq, s1']) (by simp only [upd_ne, Nat.reduceBEq, s2]) (by simp only [upd_ne, Nat.reduceBEq, s8]) (by simp only [upd_ne, Nat.reduceBEq]) (by simp only [upd_at]; rfl)
      rw [eL2]
      rw [List.drop_zero] at hL2
      cases hB : ltB h.pr a ts with
      | some tw =>
        obtain ⟨t, w⟩ := tw
        rw [hB] at hL2
        obtain ⟨rfl, s7, c, s6, n6⟩ := hL2
        simp (maxSteps := 4000000) (disch := first | omega | (refine _root_.id ?_; simp only [pl_int, pl_bool, pl_str, pl_undef, pl_nil, pl_ptr, plA_c, plA_agg, plA_tup, plV_c, plV_agg, List.all_cons, List.all_nil, Bool.and_true, Bool.and_self, eq_self, vi_int, vi_bool, get_app, get_app0, List.getElem?_cons_zero, List.getElem?_cons_succ, Option.join_some, lst_get, getL, upd_at, upd_ne, Nat.reduceBEq])) only [then_ret, out_ret, done_ret, Option.bind_some, evalRs, evalR, AV.toV0?, mkRes, V0.toAV, finish_no, s6, s7]
        exact ⟨_, _, rfl, pH2.trans p3, n6.base pH2⟩
      | none =>
        rw [hB] at hL2
        obtain rfl := hL2
        simp (maxSteps := 4000000) (disch := first | omega | (refine _root_.id ?_; simp only [pl_int, pl_bool, pl_str, pl_undef, pl_nil, pl_ptr, plA_c, plA_agg, plA_tup, plV_c, plV_agg, List.all_cons, List.all_nil, Bool.and_true, Bool.and_self, eq_self, vi_int, vi_bool, get_app, get_app0, List.getElem?_cons_zero, List.getElem?_cons_succ, Option.join_some, lst_get, getL, upd_at, upd_ne, Nat.reduceBEq])) only [evC_ret, evC_region, evC_seq, ev_t, ev_k, putS_some, ops_nil, ops_cons, next_some, then_norm, out_exit, done_ret, Option.bind_some, Option.map_some, evalOp, ↓reduceIte, evalRs, evalR, AV.toV0?, mkRes, V0.toAV, eq_self, partsA, fillC, finish_no, upd_at, upd_ne]
        exact ⟨_, _, rfl, (pH2.trans p3).app _, TsNw.nil⟩
end Go.Proofs.Ytnblibimbggheaa
