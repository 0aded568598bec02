/- What functions of the program answer: part Taken. -/
import Derived.Test.YtdkilcphdkmiiaaTake3
set_option linter.unusedVariables false
set_option linter.unusedSimpArgs false
set_option linter.unusedSectionVars false
namespace Go.Proofs.Ytdkilcphdkmiiaa
open Go Go.Proofs.Ytdkilcphdkmiiaa.VI
set_option maxHeartbeats 8000000
set_option maxRecDepth 50000
theorem run40 {k : Int} (hk : 0 ≤ k ∧ k ≤ 5) (H : AHeap) : ev kk 40 [.c (.int .i64 k)] H = some (.tup [.c (.int .i64 (wt k)), .c (.int .i64 0)], H) := by
  rw [ev_call c40]; unfold k40; rw [evB_eq rfl]
  simp only [evC_skip, evC_exit, evC_ret, evC_region, evC_seq, evC_block, ev_t, ev_k, putS_some, upd_l, putS_none, ops_nil, ops_pick, pick_bool, ops_consg, guard_bool, evC_condC, cond_bool, evC_loop, ops_cons, next_some, next_none, next_ite, nextD_some, nextD_none, nextD_ite, bind_ite, map_ite, then_ite, then_norm, then_ret, then_exit, out_ite, out_norm, out_ret, out_exit, done_ite, done_norm, done_ret, putL, getL, Option.bind_some, Option.map_some, Option.bind_none, Option.map_none, evalOp, AV.cells?, readCells, readCell, writeCells, get_app, get_app0, set_app, set_app0, len_app, List.getElem?_cons_zero, List.getElem?_cons_succ, Option.join_some, List.length_cons, List.length_nil, List.append_assoc, List.cons_append, List.nil_append, Nat.zero_add, Nat.add_zero, Nat.reduceAdd, Nat.reduceLeDiff, Nat.reduceLT, Nat.reduceMul, Nat.reduceSub, List.drop_zero, List.drop_succ_cons, List.take_zero, List.take_succ_cons, List.take_nil, List.drop_nil, if_true, if_false, ite_true, ite_false, ite_self, ↓reduceIte, reduceCtorEq, binA, binC, intBin, or_false, false_or, or_true, true_or, and_true, true_and, Int.reduceLT, Int.reduceLE, Int.reduceToNat, Int.reduceAdd, evalRs, evalR, AV.toV0?, mkRes, V0.toAV, decide_true, decide_false, and_self, Nat.reduceEqDiff, lst_get, Int.cast_ofNat_Int, eq_self, IntWalk.i64_in, IntWalk.i16_in, IntWalk.i32_in, IntWalk.i8_in, IntWalk.u8_in, Int.reduceNeg, finish_app, finish_id, pl_int, pl_bool, pl_str, pl_undef, pl_nil, pl_ptr, plA_c, plA_agg, plA_tup, plV_c, plV_agg, List.all_cons, List.all_nil, Bool.and_true, Bool.true_and, decide_eq_true_eq, decide_eq_false_iff_not, beq_self_eq_true, Bool.not_true, Bool.not_false, Bool.true_eq_false, Bool.false_eq_true, List.map_cons, List.map_nil, List.append_nil, setAt, CV.ok, eqRes, bne_self_eq_false, List.set_cons_zero, List.set_cons_succ, evC_drawn, dr_nil, dr_cons, chk_nil, chk_cons, re_same, unA, Bool.not_eq_true', Bool.not_eq_eq_eq_not, Bool.not_not, Int.zero_add, List.getElem?_nil, partsA, fillC, Int.reduceEq, Int.reduceMul, Int.reduceSub, Int.reduceTDiv, Int.reduceTMod, List.flatten_cons, List.flatten_nil, finish_no, tdiv_pos, tmod_pos, Int.reduceDiv, Int.reduceMod, len_add, vi_int, vi_bool, Int.reduceBNe, Int.reduceBEq, Nat.reduceBEq, Nat.reduceBNe, run54, hk, run45 k hk.1 hk.2]
theorem wt_b {k : Int} (hk : 0 ≤ k ∧ k ≤ 5) : 1 ≤ wt k ∧ wt k ≤ 240000 := by
  rcases kinds6 hk with rfl | rfl | rfl | rfl | rfl | rfl <;> decide
theorem put_fact {a b c d e f k n : Int} (h : few a b c d e f) (hk : 0 ≤ k ∧ k ≤ 5) (hn : 0 ≤ n ∧ n ≤ 99) : ∃ a' b' c' d' e' f', putR a b c d e f k n = .tup [.agg (brd a' b' c' d' e' f'), .c (.int .i64 0)] ∧ okB a' b' c' d' e' f' ∧ putR a' b' c' d' e' f' k (0 - n) = .tup [.agg (brd a b c d e f), .c (.int .i64 0)] ∧ amt a' b' c' d' e' f' = amt a b c d e f + n * wt k ∧ putR a b c d e f k (-1000) = code 4 := by
  have hok := h.ok
  unfold few at h
  have h1 : (0 ≤ k ∧ k ≤ 5) ∧ -1000 ≤ n ∧ n ≤ 1000 := ⟨hk, by omega⟩
  have h2 : (0 ≤ k ∧ k ≤ 5) ∧ -1000 ≤ 0 - n ∧ 0 - n ≤ 1000 := ⟨hk, by omega⟩
  have h3 : (0 ≤ k ∧ k ≤ 5) ∧ -1000 ≤ (-1000 : Int) ∧ (-1000 : Int) ≤ 1000 := ⟨hk, by omega⟩
  unfold putR
  rw [if_pos hok, if_pos h1, if_pos h3]
  rcases kinds6 hk with rfl | rfl | rfl | rfl | rfl | rfl
  · have hm : okB (a + n) b c d e f := by unfold okB okc; omega
    have q1 : ¬ a + n < 0 := by omega
    have q2 : a + -1000 < 0 := by omega
    have q3 : a + n + (0 - n) = a := by omega
    have q4 : ¬ a < 0 := by omega
    refine ⟨a + n, b, c, d, e, f, ?_, hm, ?_, ?_, ?_⟩
    · simp [putK, madeIf, q1, made, hm]
    · rw [if_pos hm, if_pos h2]
      simp only [putK, madeIf, q3]
      simp [q4, made, hok]
    · unfold amt wt; simp; omega
    · simp only [putK, madeIf]
      simp [q2, hok]
  · have hm : okB a (b + n) c d e f := by unfold okB okc; omega
    have q1 : ¬ b + n < 0 := by omega
    have q2 : b + -1000 < 0 := by omega
    have q3 : b + n + (0 - n) = b := by omega
    have q4 : ¬ b < 0 := by omega
    refine ⟨a, b + n, c, d, e, f, ?_, hm, ?_, ?_, ?_⟩
    · simp [putK, madeIf, q1, made, hm]
    · rw [if_pos hm, if_pos h2]
      simp only [putK, madeIf, q3]
      simp [q4, made, hok]
    · unfold amt wt; simp; omega
    · simp only [putK, madeIf]
      simp [q2, hok]
  · have hm : okB a b (c + n) d e f := by unfold okB okc; omega
    have q1 : ¬ c + n < 0 := by omega
    have q2 : c + -1000 < 0 := by omega
    have q3 : c + n + (0 - n) = c := by omega
    have q4 : ¬ c < 0 := by omega
    refine ⟨a, b, c + n, d, e, f, ?_, hm, ?_, ?_, ?_⟩
    · simp [putK, madeIf, q1, made, hm]
    · rw [if_pos hm, if_pos h2]
      simp only [putK, madeIf, q3]
      simp [q4, made, hok]
    · unfold amt wt; simp; omega
    · simp only [putK, madeIf]
      simp [q2, hok]
  · have hm : okB a b c (d + n) e f := by unfold okB okc; omega
    have q1 : ¬ d + n < 0 := by omega
    have q2 : d + -1000 < 0 := by omega
    have q3 : d + n + (0 - n) = d := by omega
    have q4 : ¬ d < 0 := by omega
    refine ⟨a, b, c, d + n, e, f, ?_, hm, ?_, ?_, ?_⟩
    · simp [putK, madeIf, q1, made, hm]
    · rw [if_pos hm, if_pos h2]
      simp only [putK, madeIf, q3]
      simp [q4, made, hok]
    · unfold amt wt; simp; omega
    · simp only [putK, madeIf]
      simp [q2, hok]
  · have hm : okB a b c d (e + n) f := by unfold okB okc; omega
    have q1 : ¬ e + n < 0 := by omega
    have q2 : e + -1000 < 0 := by omega
    have q3 : e + n + (0 - n) = e := by omega
    have q4 : ¬ e < 0 := by omega
    refine ⟨a, b, c, d, e + n, f, ?_, hm, ?_, ?_, ?_⟩
    · simp [putK, madeIf, q1, made, hm]
    · rw [if_pos hm, if_pos h2]
      simp only [putK, madeIf, q3]
      simp [q4, made, hok]
    · unfold amt wt; simp; omega
    · simp only [putK, madeIf]
      simp [q2, hok]
  · have hm : okB a b c d e (f + n) := by unfold okB okc; omega
    have q1 : ¬ f + n < 0 := by omega
    have q2 : f + -1000 < 0 := by omega
    have q3 : f + n + (0 - n) = f := by omega
    have q4 : ¬ f < 0 := by omega
    refine ⟨a, b, c, d, e, f + n, ?_, hm, ?_, ?_, ?_⟩
    · simp [putK, madeIf, q1, made, hm]
    · rw [if_pos hm, if_pos h2]
      simp only [putK, madeIf, q3]
      simp [q4, made, hok]
    · unfold amt wt; simp; omega
    · simp only [putK, madeIf]
      simp [q2, hok]
/-- All that is asked of two boards, of which one is taken from the other one. -/
theorem run14b {H : AHeap} {cs cs' : CV} {l' : List Int} (hc' : Bts H cs' l') (hl' : ∀ x ∈ l', 0 ≤ x ∧ x ≤ 255)
    {a b c d e f : Int} (hb : few a b c d e f) (h26 : ∀ T, ev kk 26 [.c cs] (H ++ T) = some (.agg (brd a b c d e f), H ++ T))
    {a' b' c' d' e' f' : Int} (hb' : few a' b' c' d' e' f') (h26' : ∀ T, ev kk 26 [.c cs'] (H ++ T) = some (.agg (brd a' b' c' d' e' f'), H ++ T)) (hlong : ev kk 25 [.c cs, .c cs'] H = some (.c (.bool false), H)) : ev kk 14 [.c cs, .c cs'] H = some (.c (.bool true), H) := by
  have hok := hb.ok
  have hok' := hb'.ok
  have h26 : ev kk 26 [.c cs] H = some (.agg (brd a b c d e f), H) := by simpa using h26 []
  have h27 : ∀ T, ev kk 27 [.c cs', .c (.int .i64 0), .c (.int .i64 6)] (H ++ T) = some (.c (.int .i64 (nxB l' 0 % 6)), H ++ T) := fun T => run27 (hc'.app T) hl' (by omega) (by omega)
  have h27' : ∀ T, ev kk 27 [.c cs', .c (.int .i64 1), .c (.int .i64 100)] (H ++ T) = some (.c (.int .i64 (nxB l' 1 % 100)), H ++ T) := fun T => run27 (hc'.app T) hl' (by omega) (by omega)
  have hkk : 0 ≤ nxB l' 0 % 6 ∧ nxB l' 0 % 6 ≤ 5 := by omega
  have hnn : 0 ≤ nxB l' 1 % 100 ∧ nxB l' 1 % 100 ≤ 99 := by omega
  generalize nxB l' 0 % 6 = k at *
  generalize nxB l' 1 % 100 = n at *
  have small : ∀ {a b c d e f : Int}, few a b c d e f → tf a b c d e f ≤ 1000 := by
    intro a b c d e f hb
    have tbd := tbounds hb.ok
    unfold few at hb
    have x1 : tb a b = b + a / 12 := rfl
    have x2 : tc a b c = c + tb a b / 20 := rfl
    have x3 : td a b c d = d + tc a b c / 20 := rfl
    have x4 : te a b c d e = e + td a b c d / 5 := rfl
    have x5 : tf a b c d e f = f + te a b c d e / 10 := rfl
    omega
  have hf := small hb
  have hf' := small hb'
  have hS := tdy_ok hok hf
  have hT := tdy_ok hok' hf'
  have hSA : (tdy6 a b c d e f).amt = amt a b c d e f := amt_tidy a b c d e f
  have hTA : (tdy6 a' b' c' d' e' f').amt = amt a' b' c' d' e' f' := amt_tidy a' b' c' d' e' f'
  have hR : takeR a b c d e f a' b' c' d' e' f' = if amt a b c d e f < amt a' b' c' d' e' f' then code3 4 else .tup [.agg (tk5 (tdy6 a b c d e f) (tdy6 a' b' c' d' e' f')).1.brd, .c (.int .i64 (tk5 (tdy6 a b c d e f) (tdy6 a' b' c' d' e' f')).2), .c (.int .i64 0)] := by
    unfold takeR; rw [if_pos hok, if_pos hok', if_pos hf, if_pos hf']
  have hAb : 0 ≤ amt a b c d e f ∧ amt a b c d e f ≤ 100000000 := by unfold few at hb; unfold amt; omega
  have hAb' : 0 ≤ amt a' b' c' d' e' f' ∧ amt a' b' c' d' e' f' ≤ 100000000 := by unfold few at hb'; unfold amt; omega
  obtain ⟨p0, p1, p2, p3, p4, p5, hp, hpo, hpb, hpA, hp4⟩ := put_fact hb hkk hnn
  have hwt := wt_b hkk
  have hM : 0 ≤ n * wt k ∧ n * wt k ≤ 23760000 := ⟨Int.mul_nonneg hnn.1 (by omega), by
    have := Int.mul_le_mul hnn.2 hwt.2 (by omega) (by omega); omega⟩
  have h21 : ∀ (s : T6), Tdy s → s.amt = amt a b c d e f - amt a' b' c' d' e' f' → ∀ T, 0 ≤ amt a b c d e f - amt a' b' c' d' e' f' → ev kk 21 [.c (.int .i64 (amt a b c d e f - amt a' b' c' d' e' f'))] T = some (.tup [.agg s.brd, .c (.int .i64 0)], T) := by
    intro s hs hA T h0
    have := run21 (n := amt a b c d e f - amt a' b' c' d' e' f') ⟨h0, by omega⟩ T
    rw [this, ← hA]
    rw [show tidyOf s.amt = s.brd from tidyOf_amt hs.1 hs.2.1 hs.2.2.1 hs.2.2.2.1 hs.2.2.2.2.1]
  obtain ⟨M0, M1⟩ := hM
  obtain ⟨w0, w1⟩ := hwt
  obtain ⟨n0, n1⟩ := id hnn
  obtain ⟨ab0, ab1⟩ := id hAb
  obtain ⟨ab2, ab3⟩ := id hAb'
  generalize hX : amt a b c d e f = X at *
  generalize hX' : amt a' b' c' d' e' f' = X' at *
  generalize hMM : n * wt k = M at *
  generalize hww : wt k = w at *
  have h40 : ∀ H, ev kk 40 [.c (.int .i64 k)] H = some (.tup [.c (.int .i64 w), .c (.int .i64 0)], H) := fun H => by rw [← hww]; exact run40 hkk H
  have hp4' : putR a b c d e f k (-1000) = .tup [.agg (brd 0 0 0 0 0 0), .c (.int .i64 4)] := hp4
  by_cases hlt : X < X'
  · have hle : ¬ X' ≤ X := by omega
    rw [if_pos hlt] at hR
    have hR' : takeR a b c d e f a' b' c' d' e' f' = .tup [.agg (brd 0 0 0 0 0 0), .c (.int .i64 0), .c (.int .i64 4)] := hR
    rw [ev_call c14]; unfold k14; rw [evB_eq rfl]
    simp (maxSteps := 4000000) (disch := first | omega | (refine _root_.id ?_; simp only [pl_int, pl_bool, pl_str, pl_undef, pl_nil, pl_ptr, plA_c, plA_agg, plA_tup, plV_c, plV_agg, List.all_cons, List.all_nil, Bool.and_true, Bool.and_self, eq_self, vi_int, vi_bool, get_app, get_app0, List.getElem?_cons_zero, List.getElem?_cons_succ, Option.join_some, lst_get, getL, upd_at, upd_ne, Nat.reduceBEq])) only [evC_skip, evC_exit, evC_ret, evC_region, evC_seq, evC_block, ev_t, ev_k, putS_some, upd_l, putS_none, ops_nil, ops_pick, pick_bool, ops_consg, guard_bool, evC_condC, cond_bool, ops_cons, next_some, next_none, next_ite, nextD_some, nextD_none, nextD_ite, bind_ite, map_ite, then_ite, then_norm, then_ret, then_exit, out_ite, out_norm, out_ret, out_exit, done_ite, done_norm, done_ret, putL, getL, Option.bind_some, Option.map_some, Option.bind_none, Option.map_none, evalOp, AV.cells?, readCells, readCell, writeCells, get_app, get_app0, set_app, set_app0, len_app, List.getElem?_cons_zero, List.getElem?_cons_succ, Option.join_some, List.length_cons, List.length_nil, List.append_assoc, List.cons_append, List.nil_append, Nat.zero_add, Nat.add_zero, Nat.reduceAdd, Nat.reduceLeDiff, Nat.reduceLT, Nat.reduceMul, Nat.reduceSub, List.drop_zero, List.drop_succ_cons, List.take_zero, List.take_succ_cons, List.take_nil, List.drop_nil, if_true, if_false, ite_true, ite_false, ite_self, ↓reduceIte, reduceCtorEq, binA, binC, intBin, or_false, false_or, or_true, true_or, and_true, true_and, Int.reduceLT, Int.reduceLE, Int.reduceToNat, Int.reduceAdd, evalRs, evalR, AV.toV0?, mkRes, V0.toAV, decide_true, decide_false, and_self, Nat.reduceEqDiff, lst_get, Int.cast_ofNat_Int, eq_self, IntWalk.i64_in, IntWalk.i16_in, IntWalk.i32_in, IntWalk.i8_in, IntWalk.u8_in, Int.reduceNeg, finish_app, finish_id, pl_int, pl_bool, pl_str, pl_undef, pl_nil, pl_ptr, plA_c, plA_agg, plA_tup, plV_c, plV_agg, List.all_cons, List.all_nil, Bool.and_true, Bool.true_and, decide_eq_true_eq, decide_eq_false_iff_not, beq_self_eq_true, Bool.not_true, Bool.not_false, Bool.true_eq_false, Bool.false_eq_true, List.map_cons, List.map_nil, List.append_nil, setAt, CV.ok, eqRes, bne_self_eq_false, List.set_cons_zero, List.set_cons_succ, evC_drawn, dr_nil, dr_cons, chk_nil, chk_cons, re_same, unA, Bool.not_eq_true', Bool.not_eq_eq_eq_not, Bool.not_not, Int.zero_add, List.getElem?_nil, partsA, fillC, Int.reduceEq, Int.reduceMul, Int.reduceSub, Int.reduceTDiv, Int.reduceTMod, List.flatten_cons, List.flatten_nil, finish_no, tdiv_pos, tmod_pos, Int.reduceDiv, Int.reduceMod, len_add, vi_int, vi_bool, Int.reduceBNe, Int.reduceBEq, Nat.reduceBEq, Nat.reduceBNe, post_some, post_ite, ite_ex, upd_at, upd_ne, cast_nonneg, cast_toNat, Nat.mul_one, false_implies, true_implies, implies_true, chkg_bool, chk_consg, guard_undef, hlong, h26, h26', h27, h27', run23, run24, run38, run39, run37, h40, hok, hok', hpo, hR', hlt, hle, hp, hpb, hpA, hp4', hX, hX', hMM, eqb6]
  · have hle : X' ≤ X := by omega
    rw [if_neg hlt] at hR
    obtain ⟨t1, t2, t3, t4, _⟩ := tk_ok hS hT (by omega)
    rw [hSA, hTA] at t2
    have h21' := fun T => h21 _ t1 t2 T (by omega)
    generalize tk5 (tdy6 a b c d e f) (tdy6 a' b' c' d' e' f') = q at *
    obtain ⟨⟨q0, q1, q2, q3, q4, q5⟩, m⟩ := q
    have m0 : ¬ m < 0 := by simp only at t3; omega
    have m1 : ¬ 5 < m := by simp only at t4; omega
    rw [ev_call c14]; unfold k14; rw [evB_eq rfl]
    simp (maxSteps := 4000000) (disch := first | omega | (refine _root_.id ?_; simp only [pl_int, pl_bool, pl_str, pl_undef, pl_nil, pl_ptr, plA_c, plA_agg, plA_tup, plV_c, plV_agg, List.all_cons, List.all_nil, Bool.and_true, Bool.and_self, eq_self, vi_int, vi_bool, get_app, get_app0, List.getElem?_cons_zero, List.getElem?_cons_succ, Option.join_some, lst_get, getL, upd_at, upd_ne, Nat.reduceBEq])) only [evC_skip, evC_exit, evC_ret, evC_region, evC_seq, evC_block, ev_t, ev_k, putS_some, upd_l, putS_none, ops_nil, ops_pick, pick_bool, ops_consg, guard_bool, evC_condC, cond_bool, ops_cons, next_some, next_none, next_ite, nextD_some, nextD_none, nextD_ite, bind_ite, map_ite, then_ite, then_norm, then_ret, then_exit, out_ite, out_norm, out_ret, out_exit, done_ite, done_norm, done_ret, putL, getL, Option.bind_some, Option.map_some, Option.bind_none, Option.map_none, evalOp, AV.cells?, readCells, readCell, writeCells, get_app, get_app0, set_app, set_app0, len_app, List.getElem?_cons_zero, List.getElem?_cons_succ, Option.join_some, List.length_cons, List.length_nil, List.append_assoc, List.cons_append, List.nil_append, Nat.zero_add, Nat.add_zero, Nat.reduceAdd, Nat.reduceLeDiff, Nat.reduceLT, Nat.reduceMul, Nat.reduceSub, List.drop_zero, List.drop_succ_cons, List.take_zero, List.take_succ_cons, List.take_nil, List.drop_nil, if_true, if_false, ite_true, ite_false, ite_self, ↓reduceIte, reduceCtorEq, binA, binC, intBin, or_false, false_or, or_true, true_or, and_true, true_and, Int.reduceLT, Int.reduceLE, Int.reduceToNat, Int.reduceAdd, evalRs, evalR, AV.toV0?, mkRes, V0.toAV, decide_true, decide_false, and_self, Nat.reduceEqDiff, lst_get, Int.cast_ofNat_Int, eq_self, IntWalk.i64_in, IntWalk.i16_in, IntWalk.i32_in, IntWalk.i8_in, IntWalk.u8_in, Int.reduceNeg, finish_app, finish_id, pl_int, pl_bool, pl_str, pl_undef, pl_nil, pl_ptr, plA_c, plA_agg, plA_tup, plV_c, plV_agg, List.all_cons, List.all_nil, Bool.and_true, Bool.true_and, decide_eq_true_eq, decide_eq_false_iff_not, beq_self_eq_true, Bool.not_true, Bool.not_false, Bool.true_eq_false, Bool.false_eq_true, List.map_cons, List.map_nil, List.append_nil, setAt, CV.ok, eqRes, bne_self_eq_false, List.set_cons_zero, List.set_cons_succ, evC_drawn, dr_nil, dr_cons, chk_nil, chk_cons, re_same, unA, Bool.not_eq_true', Bool.not_eq_eq_eq_not, Bool.not_not, Int.zero_add, List.getElem?_nil, partsA, fillC, Int.reduceEq, Int.reduceMul, Int.reduceSub, Int.reduceTDiv, Int.reduceTMod, List.flatten_cons, List.flatten_nil, finish_no, tdiv_pos, tmod_pos, Int.reduceDiv, Int.reduceMod, len_add, vi_int, vi_bool, Int.reduceBNe, Int.reduceBEq, Nat.reduceBEq, Nat.reduceBNe, post_some, post_ite, ite_ex, upd_at, upd_ne, cast_nonneg, cast_toNat, Nat.mul_one, false_implies, true_implies, implies_true, chkg_bool, chk_consg, guard_undef, hlong, h26, h26', h27, h27', run23, run24, run38, run39, run37, h40, h21', hok, hok', hpo, hR, hlt, hle, hp, hpb, hpA, hp4', hX, hX', hMM, eqb6, m0, m1]
theorem run14 {H : AHeap} {cs cs' : CV} {l l' : List Int} (hc : Bts H cs l) (hc' : Bts H cs' l') (hl : ∀ x ∈ l, 0 ≤ x ∧ x ≤ 255) (hl' : ∀ x ∈ l', 0 ≤ x ∧ x ≤ 255) : ev kk 14 [.c cs, .c cs'] H = some (.c (.bool true), H) := by
  have hlong : ev kk 25 [.c cs, .c cs'] H = some (.c (.bool (decide (3000 < l.length ∨ 3000 < l'.length))), H) := by
    obtain ⟨p, c, rfl⟩ := hc.shape
    obtain ⟨p', c', rfl⟩ := hc'.shape
    exact run25 H
  by_cases hb : 3000 < l.length ∨ 3000 < l'.length
  · rw [decide_eq_true hb] at hlong
    rw [ev_call c14]; unfold k14; rw [evB_eq rfl]
    simp only [evC_skip, evC_exit, evC_ret, evC_region, evC_seq, evC_block, ev_t, ev_k, putS_some, upd_l, putS_none, ops_nil, ops_pick, pick_bool, ops_consg, guard_bool, evC_condC, cond_bool, evC_loop, ops_cons, next_some, next_none, next_ite, nextD_some, nextD_none, nextD_ite, bind_ite, map_ite, then_ite, then_norm, then_ret, then_exit, out_ite, out_norm, out_ret, out_exit, done_ite, done_norm, done_ret, putL, getL, Option.bind_some, Option.map_some, Option.bind_none, Option.map_none, evalOp, AV.cells?, readCells, readCell, writeCells, get_app, get_app0, set_app, set_app0, len_app, List.getElem?_cons_zero, List.getElem?_cons_succ, Option.join_some, List.length_cons, List.length_nil, List.append_assoc, List.cons_append, List.nil_append, Nat.zero_add, Nat.add_zero, Nat.reduceAdd, Nat.reduceLeDiff, Nat.reduceLT, Nat.reduceMul, Nat.reduceSub, List.drop_zero, List.drop_succ_cons, List.take_zero, List.take_succ_cons, List.take_nil, List.drop_nil, if_true, if_false, ite_true, ite_false, ite_self, ↓reduceIte, reduceCtorEq, binA, binC, intBin, or_false, false_or, or_true, true_or, and_true, true_and, Int.reduceLT, Int.reduceLE, Int.reduceToNat, Int.reduceAdd, evalRs, evalR, AV.toV0?, mkRes, V0.toAV, decide_true, decide_false, and_self, Nat.reduceEqDiff, lst_get, Int.cast_ofNat_Int, eq_self, IntWalk.i64_in, IntWalk.i16_in, IntWalk.i32_in, IntWalk.i8_in, IntWalk.u8_in, Int.reduceNeg, finish_app, finish_id, pl_int, pl_bool, pl_str, pl_undef, pl_nil, pl_ptr, plA_c, plA_agg, plA_tup, plV_c, plV_agg, List.all_cons, List.all_nil, Bool.and_true, Bool.true_and, decide_eq_true_eq, decide_eq_false_iff_not, beq_self_eq_true, Bool.not_true, Bool.not_false, Bool.true_eq_false, Bool.false_eq_true, List.map_cons, List.map_nil, List.append_nil, setAt, CV.ok, eqRes, bne_self_eq_false, List.set_cons_zero, List.set_cons_succ, evC_drawn, dr_nil, dr_cons, chk_nil, chk_cons, re_same, unA, Bool.not_eq_true', Bool.not_eq_eq_eq_not, Bool.not_not, Int.zero_add, List.getElem?_nil, partsA, fillC, Int.reduceEq, Int.reduceMul, Int.reduceSub, Int.reduceTDiv, Int.reduceTMod, List.flatten_cons, List.flatten_nil, finish_no, tdiv_pos, tmod_pos, Int.reduceDiv, Int.reduceMod, len_add, vi_int, vi_bool, Int.reduceBNe, Int.reduceBEq, Nat.reduceBEq, Nat.reduceBNe, hlong]
  · rw [decide_eq_false hb] at hlong
    exact run14b hc' hl' (few_pk hl _ _ _ _ _ _ _ _ _ _ _ _) (fun T => run26 (hc.app T) hl) (few_pk hl' _ _ _ _ _ _ _ _ _ _ _ _) (fun T => run26 (hc'.app T) hl') hlong
theorem law14 (H : AHeap) (vs : List AV) (h : ArgsOk H [.sl 1 1 (.int .u8), .sl 1 1 (.int .u8)] vs) : ∃ H', ev kk 14 vs H = some (.c (.bool true), H') := by
  obtain ⟨a, vs0, rfl, h1, h2⟩ := h.cons_inv
  obtain ⟨a', vs1, rfl, h3, h4⟩ := h2.cons_inv
  obtain rfl := h4.nil_inv
  obtain ⟨c, elems, rfl, h5, h6, _⟩ := h1.sl_inv
  obtain ⟨c', elems', rfl, h7, h8, _⟩ := h3.sl_inv
  obtain ⟨l, hb, hl⟩ := bts_inv h5 h6
  obtain ⟨l', hb', hl'⟩ := bts_inv h7 h8
  exact ⟨H, run14 hb hb' hl hl'⟩
end Go.Proofs.Ytdkilcphdkmiiaa
