/- What functions of the program answer: part I3. -/
import Derived.Test.YtmockobmiagbcaaDoorI2
set_option linter.unusedVariables false
set_option linter.unusedSimpArgs false
set_option linter.unusedSectionVars false
namespace Go.Proofs.YtmockobmiagbcaaDoor
open Go Go.Proofs.YtmockobmiagbcaaDoor.VI
set_option maxHeartbeats 64000000
set_option maxRecDepth 20000
/-! FnInterest -/
theorem eq_loans {a b c d e : Int} : eqCells [.int, .int, .int, .int, .int] [.int .i64 a, .int .i64 b, .int .i64 c, .int .i64 d, .int .i64 e] [.int .i64 a, .int .i64 b, .int .i64 c, .int .i64 d, .int .i64 e] = some true := by simp [eqCells, eqC]
theorem cmpV_b (z : Int) : -1 ≤ cmpV z ∧ cmpV z ≤ 1 := by unfold cmpV; split <;> (try split) <;> omega
theorem groR_few {a n D d v : Int} (ha : 0 ≤ a ∧ a ≤ 100000000) (h : okR n D) (hd : 0 ≤ d ∧ d ≤ 40000) (hv : 0 ≤ v ∧ v ≤ 40000) (hg : grw a n D d v ≤ 100000000) : groR a n D d v = .tup [.c (.int .i64 (grw a n D d v)), .c (.int .i64 0)] := by
  unfold groR; rw [ask_of ha h hd, if_pos rfl, if_pos hv]; exact told_few hg
theorem run3 {H : AHeap} {cs cs' : CV} {l l' : List Int} (hc : Bts H cs l) (hc' : Bts H cs' l') (hl : ∀ x ∈ l, 0 ≤ x ∧ x ≤ 255) (hl' : ∀ x ∈ l', 0 ≤ x ∧ x ≤ 255) : ev kk 3 [.c cs, .c cs'] H = some (.c (.bool true), H) := by
  have f1 : ev kk 6 [.c cs] H = some (.c (.bool (decide ((4096 : Int) < l.length))), H) := by
    obtain ⟨p, c, rfl⟩ := hc.shape; exact run6
  have f2 : ev kk 6 [.c cs'] H = some (.c (.bool (decide ((4096 : Int) < l'.length))), H) := by
    obtain ⟨p, c, rfl⟩ := hc'.shape; exact run6
  by_cases hb1 : (4096 : Int) < l.length
  · rw [ev_call c3]; unfold k3; rw [evB_eq rfl]
    simp (maxSteps := 4000000) (disch := first | omega | (refine _root_.id ?_; simp only [pl_int, pl_bool, pl_str, pl_undef, pl_nil, pl_ptr, plA_c, plA_agg, plA_tup, plV_c, plV_agg, List.all_cons, List.all_nil, Bool.and_true, Bool.and_self, eq_self, vi_int, vi_bool, get_app, get_app0, List.getElem?_cons_zero, List.getElem?_cons_succ, Option.join_some, lst_get, getL, upd_at, upd_ne, Nat.reduceBEq])) only [evC_skip, evC_exit, evC_ret, evC_region, evC_seq, evC_block, ev_t, ev_k, putS_some, upd_l, putS_none, ops_nil, ops_pick, pick_bool, ops_consg, guard_bool, evC_condC, cond_bool, ops_cons, next_some, next_none, next_ite, nextD_some, nextD_none, nextD_ite, bind_ite, map_ite, then_ite, then_norm, then_ret, then_exit, out_ite, out_norm, out_ret, out_exit, done_ite, done_norm, done_ret, putL, getL, Option.bind_some, Option.map_some, Option.bind_none, Option.map_none, evalOp, AV.cells?, readCells, readCell, writeCells, get_app, get_app0, set_app, set_app0, len_app, List.getElem?_cons_zero, List.getElem?_cons_succ, Option.join_some, List.length_cons, List.length_nil, List.append_assoc, List.cons_append, List.nil_append, Nat.zero_add, Nat.add_zero, Nat.reduceAdd, Nat.reduceLeDiff, Nat.reduceLT, Nat.reduceMul, Nat.reduceSub, List.drop_zero, List.drop_succ_cons, List.take_zero, List.take_succ_cons, List.take_nil, List.drop_nil, if_true, if_false, ite_true, ite_false, ite_self, ↓reduceIte, reduceCtorEq, binA, binC, intBin, or_false, false_or, or_true, true_or, and_true, true_and, Int.reduceLT, Int.reduceLE, Int.reduceToNat, Int.reduceAdd, evalRs, evalR, AV.toV0?, mkRes, V0.toAV, decide_true, decide_false, and_self, Nat.reduceEqDiff, lst_get, Int.cast_ofNat_Int, eq_self, IntWalk.i64_in, IntWalk.i16_in, IntWalk.i32_in, IntWalk.i8_in, IntWalk.u8_in, Int.reduceNeg, finish_app, finish_id, pl_int, pl_bool, pl_str, pl_undef, pl_nil, pl_ptr, plA_c, plA_agg, plA_tup, plV_c, plV_agg, List.all_cons, List.all_nil, Bool.and_true, Bool.true_and, decide_eq_true_eq, decide_eq_false_iff_not, beq_self_eq_true, Bool.not_true, Bool.not_false, Bool.true_eq_false, Bool.false_eq_true, List.map_cons, List.map_nil, List.append_nil, setAt, CV.ok, eqRes, bne_self_eq_false, List.set_cons_zero, List.set_cons_succ, evC_drawn, dr_nil, dr_cons, chk_nil, chk_cons, re_same, unA, Bool.not_eq_true', Bool.not_eq_eq_eq_not, Bool.not_not, Int.zero_add, List.getElem?_nil, partsA, fillC, Int.reduceEq, Int.reduceMul, Int.reduceSub, Int.reduceTDiv, Int.reduceTMod, List.flatten_cons, List.flatten_nil, finish_no, tdiv_pos, tmod_pos, Int.reduceDiv, Int.reduceMod, len_add, vi_int, vi_bool, Int.reduceBNe, Int.reduceBEq, Nat.reduceBEq, Nat.reduceBNe, post_some, post_ite, ite_ex, upd_at, upd_ne, cast_nonneg, cast_toNat, Nat.mul_one, false_implies, true_implies, implies_true, chkg_bool, chk_consg, guard_undef, f1, hb1]
  by_cases hb2 : (4096 : Int) < l'.length
  · rw [ev_call c3]; unfold k3; rw [evB_eq rfl]
    simp (maxSteps := 4000000) (disch := first | omega | (refine _root_.id ?_; simp only [pl_int, pl_bool, pl_str, pl_undef, pl_nil, pl_ptr, plA_c, plA_agg, plA_tup, plV_c, plV_agg, List.all_cons, List.all_nil, Bool.and_true, Bool.and_self, eq_self, vi_int, vi_bool, get_app, get_app0, List.getElem?_cons_zero, List.getElem?_cons_succ, Option.join_some, lst_get, getL, upd_at, upd_ne, Nat.reduceBEq])) only [evC_skip, evC_exit, evC_ret, evC_region, evC_seq, evC_block, ev_t, ev_k, putS_some, upd_l, putS_none, ops_nil, ops_pick, pick_bool, ops_consg, guard_bool, evC_condC, cond_bool, ops_cons, next_some, next_none, next_ite, nextD_some, nextD_none, nextD_ite, bind_ite, map_ite, then_ite, then_norm, then_ret, then_exit, out_ite, out_norm, out_ret, out_exit, done_ite, done_norm, done_ret, putL, getL, Option.bind_some, Option.map_some, Option.bind_none, Option.map_none, evalOp, AV.cells?, readCells, readCell, writeCells, get_app, get_app0, set_app, set_app0, len_app, List.getElem?_cons_zero, List.getElem?_cons_succ, Option.join_some, List.length_cons, List.length_nil, List.append_assoc, List.cons_append, List.nil_append, Nat.zero_add, Nat.add_zero, Nat.reduceAdd, Nat.reduceLeDiff, Nat.reduceLT, Nat.reduceMul, Nat.reduceSub, List.drop_zero, List.drop_succ_cons, List.take_zero, List.take_succ_cons, List.take_nil, List.drop_nil, if_true, if_false, ite_true, ite_false, ite_self, ↓reduceIte, reduceCtorEq, binA, binC, intBin, or_false, false_or, or_true, true_or, and_true, true_and, Int.reduceLT, Int.reduceLE, Int.reduceToNat, Int.reduceAdd, evalRs, evalR, AV.toV0?, mkRes, V0.toAV, decide_true, decide_false, and_self, Nat.reduceEqDiff, lst_get, Int.cast_ofNat_Int, eq_self, IntWalk.i64_in, IntWalk.i16_in, IntWalk.i32_in, IntWalk.i8_in, IntWalk.u8_in, Int.reduceNeg, finish_app, finish_id, pl_int, pl_bool, pl_str, pl_undef, pl_nil, pl_ptr, plA_c, plA_agg, plA_tup, plV_c, plV_agg, List.all_cons, List.all_nil, Bool.and_true, Bool.true_and, decide_eq_true_eq, decide_eq_false_iff_not, beq_self_eq_true, Bool.not_true, Bool.not_false, Bool.true_eq_false, Bool.false_eq_true, List.map_cons, List.map_nil, List.append_nil, setAt, CV.ok, eqRes, bne_self_eq_false, List.set_cons_zero, List.set_cons_succ, evC_drawn, dr_nil, dr_cons, chk_nil, chk_cons, re_same, unA, Bool.not_eq_true', Bool.not_eq_eq_eq_not, Bool.not_not, Int.zero_add, List.getElem?_nil, partsA, fillC, Int.reduceEq, Int.reduceMul, Int.reduceSub, Int.reduceTDiv, Int.reduceTMod, List.flatten_cons, List.flatten_nil, finish_no, tdiv_pos, tmod_pos, Int.reduceDiv, Int.reduceMod, len_add, vi_int, vi_bool, Int.reduceBNe, Int.reduceBEq, Nat.reduceBEq, Nat.reduceBNe, post_some, post_ite, ite_ex, upd_at, upd_ne, cast_nonneg, cast_toNat, Nat.mul_one, false_implies, true_implies, implies_true, chkg_bool, chk_consg, guard_undef, f1, f2, hb1, hb2]
  obtain ⟨x, hx, p1⟩ := run7 hc hl
  have p2 := fun T => run8 (hc'.app T) hl'
  have p3 := fun T => run9 (hc'.app T) hl' (n := 1500) (by omega)
  have b2 := pkV_b hl' 30 0 0
  have b3 := pkV_b hl' 170 (pkT 30 0) (pkS l' 30 0 0)
  have b4 := pkV_b hl' 1500 0 0
  generalize pkV l' 30 0 0 = n at *
  generalize pkV l' 170 (pkT 30 0) (pkS l' 30 0 0) = D' at *
  generalize pkV l' 1500 0 0 = d at *
  generalize hD : 30 + D' = D at *
  have hR : okR n D := ⟨by omega, by omega, by omega⟩
  have hd : 0 ≤ d ∧ d < 1500 := by omega
  have hok := okL_dr hx
  obtain ⟨x1, x2, x3, x4, x5⟩ := hx
  have hRx : okR x.n x.D := ⟨by omega, by omega, by omega⟩
  have r11 := fun T => run11 x (H ++ T)
  simp only [hok, if_true] at r11
  have r10 := fun T => run10 (s := lnT x) (by have := lnT_len hok; omega) (H ++ T)
  rw [rlI_of hok] at r10
  simp only [outL] at r10
  have r14 := fun T => run14 x (H ++ T)
  rw [hok] at r14
  have r15 := fun T => run15 n D (H ++ T)
  rw [decide_eq_true hR] at r15
  -- interest
  have i1 := itr_few hR (d := d) ⟨hd.1, by omega⟩ (a := x.A) ⟨x1.1, by omega⟩
  have i2 := itr_few hR (d := d + 1) ⟨by omega, by omega⟩ (a := x.A) ⟨x1.1, by omega⟩
  have i3 := itr_few hR (d := d) ⟨hd.1, by omega⟩ (a := x.A + 1) ⟨by omega, by omega⟩
  have j2 := itr_days hR (a := x.A) x1.1 (s := d) (t := d + 1) (by omega)
  have j3 := itr_mono hR (d := d) hd.1 (x := x.A) (y := x.A + 1) (by omega)
  obtain ⟨_, _, j0, _⟩ := itr_f (a := x.A) (d := d) ⟨x1.1, by omega⟩ hR ⟨hd.1, by omega⟩
  have r12 := fun T => run12 (a := x.A) (d := d) ⟨x1.1, by omega⟩ hR ⟨hd.1, by omega⟩ (H ++ T)
  have r13 := fun T => run13 (a := x.A) (d := d) ⟨x1.1, by omega⟩ hR ⟨hd.1, by omega⟩ (H ++ T)
  have r12b := fun T => run12 (a := x.A) (d := d + 1) ⟨x1.1, by omega⟩ hR ⟨by omega, by omega⟩ (H ++ T)
  have r12c := fun T => run12 (a := x.A + 1) (d := d) ⟨by omega, by omega⟩ hR ⟨hd.1, by omega⟩ (H ++ T)
  rw [told_few (by omega)] at r12 r13 r12b r12c
  have lt1 : ¬ itr x.A n (d + 1) D < itr x.A n d D := by omega
  have lt2 : ¬ itr (x.A + 1) n d D < itr x.A n d D := by omega
  -- growth
  have g0e : grw x.A n D d 0 = x.A + itr x.A n d D := by unfold grw; rw [if_pos rfl]
  have g1 := grw_small hR (a := x.A) (t := d) ⟨x1.1, by omega⟩ ⟨hd.1, by omega⟩
  have g2 := grw_nn hR (a := x.A) (v := 100) (t := d) ⟨x1.1, by omega⟩ (by omega) hd.1
  have g3 := grw_lo hR (a := x.A) (t := d) ⟨x1.1, by omega⟩ ⟨hd.1, by omega⟩
  have r16a := fun T => run16 x.A n D d (H ++ T) 0
  have r16b := fun T => run16 x.A n D d (H ++ T) 100
  have r17 := fun T => run17 x.A n D d (H ++ T) 100
  rw [groR_few ⟨x1.1, by omega⟩ hR ⟨hd.1, by omega⟩ (by omega) (by omega), g0e] at r16a
  rw [groR_few ⟨x1.1, by omega⟩ hR ⟨hd.1, by omega⟩ (by omega) (by omega)] at r16b r17
  have hdq : d.tdiv 100 = d / 100 := Int.tdiv_eq_ediv_of_nonneg hd.1
  have lt3 : ¬ grw x.A n D d 100 < x.A := by omega
  have lt4 : ¬ grw x.A n D d 100 + d / 100 + 1 < x.A + itr x.A n d D := by omega
  -- due
  have r18 := fun T => run18 hok (t := d) ⟨hd.1, by omega⟩ (by omega) (H ++ T)
  have r19 := fun T => run19 hok (t := d) ⟨hd.1, by omega⟩ (by omega) (H ++ T)
  obtain ⟨p, q, hp⟩ := told_s (grw x.A x.n x.D d x.v)
  rw [hp] at r18 r19
  -- rates
  have r20 := fun T => run20 hR hRx (H ++ T)
  have r20' := fun T => run20 hRx hR (H ++ T)
  have hC : cmpV (x.n * D - n * x.D) = - cmpV (n * x.D - x.n * D) := by rw [← cmpV_neg]; congr 1; omega
  rw [hC] at r20'
  have bC := cmpV_b (n * x.D - x.n * D)
  -- doubles
  have r21 := fun T => run21 (x.A + 1) n D x.v (H ++ T)
  have r22 := fun T => run22 (x.A + 1) n D x.v (H ++ T)
  have hask : ask (x.A + 1) n D x.v = 0 := ask_of ⟨by omega, by omega⟩ hR (by omega)
  obtain ⟨⟨F0, F1⟩, F2, F3⟩ := dayF_is (a := x.A + 1) (n := n) (D := D) (v := x.v)
  have hz := grw_zero (a := x.A + 1) (n := n) (D := D) (v := x.v) x5.1 (by omega)
  unfold dblR at r21 r22
  rw [if_pos hask] at r21 r22
  generalize itr x.A n d D = I1 at *
  generalize itr x.A n (d + 1) D = I2 at *
  generalize itr (x.A + 1) n d D = I3 at *
  generalize grw x.A n D d 100 = G at *
  generalize cmpV (n * x.D - x.n * D) = C at *
  generalize dayF (x.A + 1) n D x.v = F at *
  have hneg : (0 : Int) - -C = C := by omega
  by_cases hF : 40000 < F ∨ 100000000 < grw (x.A + 1) n D F x.v
  · rw [if_pos hF] at r21 r22
    rw [ev_call c3]; unfold k3; rw [evB_eq rfl]
    simp (maxSteps := 4000000) (disch := first | omega | (refine _root_.id ?_; simp only [pl_int, pl_bool, pl_str, pl_undef, pl_nil, pl_ptr, plA_c, plA_agg, plA_tup, plV_c, plV_agg, List.all_cons, List.all_nil, Bool.and_true, Bool.and_self, eq_self, vi_int, vi_bool, get_app, get_app0, List.getElem?_cons_zero, List.getElem?_cons_succ, Option.join_some, lst_get, getL, upd_at, upd_ne, Nat.reduceBEq])) only [evC_skip, evC_exit, evC_ret, evC_region, evC_seq, evC_block, ev_t, ev_k, putS_some, upd_l, putS_none, ops_nil, ops_pick, pick_bool, ops_consg, guard_bool, evC_condC, cond_bool, ops_cons, next_some, next_none, next_ite, nextD_some, nextD_none, nextD_ite, bind_ite, map_ite, then_ite, then_norm, then_ret, then_exit, out_ite, out_norm, out_ret, out_exit, done_ite, done_norm, done_ret, putL, getL, Option.bind_some, Option.map_some, Option.bind_none, Option.map_none, evalOp, AV.cells?, readCells, readCell, writeCells, get_app, get_app0, set_app, set_app0, len_app, List.getElem?_cons_zero, List.getElem?_cons_succ, Option.join_some, List.length_cons, List.length_nil, List.append_assoc, List.cons_append, List.nil_append, Nat.zero_add, Nat.add_zero, Nat.reduceAdd, Nat.reduceLeDiff, Nat.reduceLT, Nat.reduceMul, Nat.reduceSub, List.drop_zero, List.drop_succ_cons, List.take_zero, List.take_succ_cons, List.take_nil, List.drop_nil, if_true, if_false, ite_true, ite_false, ite_self, ↓reduceIte, reduceCtorEq, binA, binC, intBin, or_false, false_or, or_true, true_or, and_true, true_and, Int.reduceLT, Int.reduceLE, Int.reduceToNat, Int.reduceAdd, evalRs, evalR, AV.toV0?, mkRes, V0.toAV, decide_true, decide_false, and_self, Nat.reduceEqDiff, lst_get, Int.cast_ofNat_Int, eq_self, IntWalk.i64_in, IntWalk.i16_in, IntWalk.i32_in, IntWalk.i8_in, IntWalk.u8_in, Int.reduceNeg, finish_app, finish_id, pl_int, pl_bool, pl_str, pl_undef, pl_nil, pl_ptr, plA_c, plA_agg, plA_tup, plV_c, plV_agg, List.all_cons, List.all_nil, Bool.and_true, Bool.true_and, decide_eq_true_eq, decide_eq_false_iff_not, beq_self_eq_true, Bool.not_true, Bool.not_false, Bool.true_eq_false, Bool.false_eq_true, List.map_cons, List.map_nil, List.append_nil, setAt, CV.ok, eqRes, bne_self_eq_false, List.set_cons_zero, List.set_cons_succ, evC_drawn, dr_nil, dr_cons, chk_nil, chk_cons, re_same, unA, Bool.not_eq_true', Bool.not_eq_eq_eq_not, Bool.not_not, Int.zero_add, List.getElem?_nil, partsA, fillC, Int.reduceEq, Int.reduceMul, Int.reduceSub, Int.reduceTDiv, Int.reduceTMod, List.flatten_cons, List.flatten_nil, finish_no, tdiv_pos, tmod_pos, Int.reduceDiv, Int.reduceMod, len_add, vi_int, vi_bool, Int.reduceBNe, Int.reduceBEq, Nat.reduceBEq, Nat.reduceBNe, post_some, post_ite, ite_ex, upd_at, upd_ne, cast_nonneg, cast_toNat, Nat.mul_one, false_implies, true_implies, implies_true, chkg_bool, chk_consg, guard_undef, f1, f2, hb1, hb2, p1, p2, p3, hD, r11, r10, eq_loans, r12, r13, r12b, r12c, r14, r15, lt1, lt2, r16a, r16b, r17, hdq, lt3, lt4, r18, r19, r20, r20', hneg, r21, r22]
  · rw [if_neg hF] at r21 r22
    have hpd := F2 (by omega)
    have hF0 : F ≠ 0 := by
      intro e
      unfold pd at hpd
      rw [e, hz] at hpd; omega
    have hpn := F3 (F - 1) (by omega) (by omega)
    unfold pd at hpd hpn
    have r16c := fun T => run16 (x.A + 1) n D F (H ++ T) x.v
    have r16d := fun T => run16 (x.A + 1) n D (F - 1) (H ++ T) x.v
    rw [groR_few ⟨by omega, by omega⟩ hR ⟨by omega, by omega⟩ (by omega) (by omega)] at r16c
    rw [groR_few ⟨by omega, by omega⟩ hR ⟨by omega, by omega⟩ (by omega) (by omega)] at r16d
    have u1 : ¬ grw (x.A + 1) n D F x.v < 2 * (x.A + 1) := by omega
    have u2 : grw (x.A + 1) n D (F - 1) x.v < 2 * (x.A + 1) := by omega
    have hFb : (F == 0) = false := beq_eq_false_iff_ne.2 hF0
    generalize grw (x.A + 1) n D F x.v = X1 at *
    generalize grw (x.A + 1) n D (F - 1) x.v = X2 at *
    rw [ev_call c3]; unfold k3; rw [evB_eq rfl]
    simp (maxSteps := 4000000) (disch := first | omega | (refine _root_.id ?_; simp only [pl_int, pl_bool, pl_str, pl_undef, pl_nil, pl_ptr, plA_c, plA_agg, plA_tup, plV_c, plV_agg, List.all_cons, List.all_nil, Bool.and_true, Bool.and_self, eq_self, vi_int, vi_bool, get_app, get_app0, List.getElem?_cons_zero, List.getElem?_cons_succ, Option.join_some, lst_get, getL, upd_at, upd_ne, Nat.reduceBEq])) only [evC_skip, evC_exit, evC_ret, evC_region, evC_seq, evC_block, ev_t, ev_k, putS_some, upd_l, putS_none, ops_nil, ops_pick, pick_bool, ops_consg, guard_bool, evC_condC, cond_bool, ops_cons, next_some, next_none, next_ite, nextD_some, nextD_none, nextD_ite, bind_ite, map_ite, then_ite, then_norm, then_ret, then_exit, out_ite, out_norm, out_ret, out_exit, done_ite, done_norm, done_ret, putL, getL, Option.bind_some, Option.map_some, Option.bind_none, Option.map_none, evalOp, AV.cells?, readCells, readCell, writeCells, get_app, get_app0, set_app, set_app0, len_app, List.getElem?_cons_zero, List.getElem?_cons_succ, Option.join_some, List.length_cons, List.length_nil, List.append_assoc, List.cons_append, List.nil_append, Nat.zero_add, Nat.add_zero, Nat.reduceAdd, Nat.reduceLeDiff, Nat.reduceLT, Nat.reduceMul, Nat.reduceSub, List.drop_zero, List.drop_succ_cons, List.take_zero, List.take_succ_cons, List.take_nil, List.drop_nil, if_true, if_false, ite_true, ite_false, ite_self, ↓reduceIte, reduceCtorEq, binA, binC, intBin, or_false, false_or, or_true, true_or, and_true, true_and, Int.reduceLT, Int.reduceLE, Int.reduceToNat, Int.reduceAdd, evalRs, evalR, AV.toV0?, mkRes, V0.toAV, decide_true, decide_false, and_self, Nat.reduceEqDiff, lst_get, Int.cast_ofNat_Int, eq_self, IntWalk.i64_in, IntWalk.i16_in, IntWalk.i32_in, IntWalk.i8_in, IntWalk.u8_in, Int.reduceNeg, finish_app, finish_id, pl_int, pl_bool, pl_str, pl_undef, pl_nil, pl_ptr, plA_c, plA_agg, plA_tup, plV_c, plV_agg, List.all_cons, List.all_nil, Bool.and_true, Bool.true_and, decide_eq_true_eq, decide_eq_false_iff_not, beq_self_eq_true, Bool.not_true, Bool.not_false, Bool.true_eq_false, Bool.false_eq_true, List.map_cons, List.map_nil, List.append_nil, setAt, CV.ok, eqRes, bne_self_eq_false, List.set_cons_zero, List.set_cons_succ, evC_drawn, dr_nil, dr_cons, chk_nil, chk_cons, re_same, unA, Bool.not_eq_true', Bool.not_eq_eq_eq_not, Bool.not_not, Int.zero_add, List.getElem?_nil, partsA, fillC, Int.reduceEq, Int.reduceMul, Int.reduceSub, Int.reduceTDiv, Int.reduceTMod, List.flatten_cons, List.flatten_nil, finish_no, tdiv_pos, tmod_pos, Int.reduceDiv, Int.reduceMod, len_add, vi_int, vi_bool, Int.reduceBNe, Int.reduceBEq, Nat.reduceBEq, Nat.reduceBNe, post_some, post_ite, ite_ex, upd_at, upd_ne, cast_nonneg, cast_toNat, Nat.mul_one, false_implies, true_implies, implies_true, chkg_bool, chk_consg, guard_undef, f1, f2, hb1, hb2, p1, p2, p3, hD, r11, r10, eq_loans, r12, r13, r12b, r12c, r14, r15, lt1, lt2, r16a, r16b, r17, hdq, lt3, lt4, r18, r19, r20, r20', hneg, r21, r22, r16c, r16d, u1, u2, hFb]
theorem law3 (H : AHeap) (vs : List AV) (h : ArgsOk H [.sl 1 1 (.int .u8), .sl 1 1 (.int .u8)] vs) : ∃ H', ev kk 3 vs H = some (.c (.bool true), H') := by
  obtain ⟨a, vs0, rfl, h1, h2⟩ := h.cons_inv
  obtain ⟨a', vs1, rfl, h3, h4⟩ := h2.cons_inv
  obtain rfl := h4.nil_inv
  obtain ⟨c, elems, rfl, h5, h6, _⟩ := h1.sl_inv
  obtain ⟨c', elems', rfl, h7, h8, _⟩ := h3.sl_inv
  obtain ⟨l, hb, hl⟩ := bts_inv h5 h6
  obtain ⟨l', hb', hl'⟩ := bts_inv h7 h8
  exact ⟨H, run3 hb hb' hl hl'⟩
end Go.Proofs.YtmockobmiagbcaaDoor
