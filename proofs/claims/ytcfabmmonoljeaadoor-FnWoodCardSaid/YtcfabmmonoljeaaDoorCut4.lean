/- What functions of the program answer: part Cut4. -/
import Derived.Test.YtcfabmmonoljeaaDoorCut3
set_option linter.unusedVariables false
set_option linter.unusedSimpArgs false
set_option linter.unusedSectionVars false
namespace Go.Proofs.YtcfabmmonoljeaaDoor
open Go Go.Proofs.YtcfabmmonoljeaaDoor.VI
set_option maxHeartbeats 16000000
set_option maxRecDepth 20000
theorem run68 {h : Hf} {kd a : Int} {H : AHeap} (hh : HfAt H h) (ok : okF h = true) : ∃ y J, ev kk 68 [.agg (hfr h), .c (.int .i64 kd), .c (.int .i64 a)] H = some (.tup [.agg (hfr y), .c (.int .i64 (cnR h.pr kd a).2)], J) ∧ Pre H J ∧ y.pr = (cnR h.pr kd a).1 ∧ HfNw H J y := by
  have b0 : ∀ T, AHeap.get (H ++ hfb h :: T) H.length = hfb h := fun T => by rw [get_app0]; rfl
  have r57 := fun T => v66 (hh.app (hfb h :: T)) (b0 T)
  rw [ok] at r57
  have few := okF_few ok
  rw [ev_call c68]; unfold k68; rw [evB_eq rfl]
  have r95 := fun T => run69 kd (H ++ T)
  have r75 := fun T => run70 a 0 200 (H ++ T)
  by_cases hk : 0 ≤ kd ∧ kd ≤ 5
  · by_cases ha : 0 ≤ a ∧ a ≤ 200
    · obtain ⟨q, c, J, e1, p1, n1⟩ := run83 (cap := h.cap) (k := kd) (a := a) (by omega) hh.rng (hh.at_.app [hfb h, zbl]) hk ha
      obtain ⟨y, hy⟩ : ∃ y : Hf, y = ⟨h.st, q, c, cutP h.xs kd a, h.g, h.g16⟩ := ⟨_, rfl⟩
      have hyr : (.bool h.st :: .slice q (h.xs.length + 1) c :: grow h.g) = hfr y := by rw [hy]; simp only [hfr, cutP_len]
      have b1 := p1.get (b0 [zbl])
      have b2 := p1.get (show AHeap.get (H ++ [hfb h, zbl]) (H.length + 1) = zbl by rw [get_app]; rfl)
      have lt1 : H.length < J.length := get_some_lt b1
      have lt2 : H.length + 1 < J.length := get_some_lt b2
      have pJ : Pre H J := pre_app.trans p1
      have hyN : HfNw (H ++ [hfb h, zbl]) J y := ⟨by rw [hy]; dsimp only; rw [cutP_len]; omega, by
        rw [hy]; intro x hx
        rcases cutP_mem hx with rfl | hx
        · unfold rngN; dsimp only; omega
        · exact hh.rng x hx, by rw [hy]; exact n1⟩
      have r57' := v66 (hyN.at_.pre (pre_app (t := [some ⟨29, hfr y, .own⟩]))) (j := J.length) (e := 29) (m := .own) (by rw [get_app0]; rfl)
      have hl18 := hfr_len y
      have ht18 : List.take 18 (hfr y) = hfr y := List.take_of_length_le (by omega)
      have hok18 : (hfr y).all CV.ok = true := by simp only [List.all_cons, grow_ok]; rfl
      have hyo : okH (cutP h.xs kd a) h.g = okF y := by unfold okF; rw [hy]
      have hC : cnR h.pr kd a = if okF y = true then (⟨h.st, cutP h.xs kd a, h.g⟩, 0) else (zPr, 4) := by unfold cnR; rw [if_pos ⟨hk, ha⟩]; dsimp only; rw [hyo]
      rw [hC]
      have gl' := gl (h := h)
      simp (maxSteps := 4000000) (disch := first | omega | (refine _root_.id ?_; simp only [pl_int, pl_bool, pl_str, pl_undef, pl_nil, pl_ptr, plA_c, plA_agg, plA_tup, plV_c, plV_agg, List.all_cons, List.all_nil, Bool.and_true, Bool.and_self, eq_self, vi_int, vi_bool, get_app, get_app0, List.getElem?_cons_zero, List.getElem?_cons_succ, Option.join_some, lst_get, getL, upd_at, upd_ne, Nat.reduceBEq])) only [evC_skip, evC_region, evC_seq, ev_t, ev_k, putS_some, upd_l, putS_none, ops_nil, ops_consg, guard_bool, evC_condC, cond_bool, ops_cons, next_some, next_none, next_ite, nextD_some, nextD_none, nextD_ite, map_ite, then_ite, then_norm, done_ite, putL, getL, Option.map_some, Option.map_none, evalOp, AV.cells?, readCells, readCell, writeCells, get_app0, set_app0, len_app, List.getElem?_cons_zero, List.getElem?_cons_succ, Option.join_some, List.length_cons, List.length_nil, List.append_assoc, List.cons_append, List.nil_append, Nat.zero_add, Nat.add_zero, Nat.reduceAdd, Nat.reduceLeDiff, List.drop_zero, List.drop_succ_cons, List.take_zero, List.take_succ_cons, List.drop_nil, ↓reduceIte, true_and, decide_true, and_self, lst_get, eq_self, List.all_cons, Bool.true_and, Bool.not_true, Bool.false_eq_true, List.map_cons, List.map_nil, List.append_nil, setAt, CV.ok, List.set_cons_zero, evC_drawn, dr_nil, dr_cons, chk_nil, chk_cons, re_same, unA, partsA, fillC, r57, r95, r75, hk, ha, e1, b1, gl, gt, Nat.le_refl, get_appl lt1]
      rw [hyr]
      obtain ⟨R, hR⟩ : ∃ R, R = hfr y := ⟨_, rfl⟩
      rw [← hR] at r57' hl18 ht18 hok18 ⊢
      cases ho : okF y
      · rw [ho] at r57'
        simp (maxSteps := 4000000) (disch := first | omega | (refine _root_.id ?_; simp only [pl_int, pl_bool, pl_str, pl_undef, pl_nil, pl_ptr, plA_c, plA_agg, plA_tup, plV_c, plV_agg, List.all_cons, List.all_nil, Bool.and_true, Bool.and_self, eq_self, vi_int, vi_bool, get_app, get_app0, List.getElem?_cons_zero, List.getElem?_cons_succ, Option.join_some, lst_get, getL, upd_at, upd_ne, Nat.reduceBEq])) only [evC_ret, evC_region, evC_seq, ev_t, ev_k, putS_some, upd_l, putS_none, ops_nil, evC_condC, cond_bool, ops_cons, next_some, then_norm, then_ret, done_ret, putL, getL, Option.bind_some, Option.map_some, evalOp, AV.cells?, readCells, writeCells, List.length_cons, List.length_nil, List.nil_append, Nat.zero_add, Nat.reduceAdd, List.drop_zero, List.drop_succ_cons, List.take_zero, List.take_succ_cons, List.take_nil, List.drop_nil, ↓reduceIte, evalRs, evalR, AV.toV0?, mkRes, V0.toAV, and_self, lst_get, eq_self, List.all_cons, List.all_nil, Bool.and_true, Bool.not_false, Bool.false_eq_true, List.append_nil, setAt, CV.ok, unA, partsA, fillC, finish_no, b2, r57', grow_ok, Nat.le_refl, get_appl lt2, set_appl lt2, get_set_app lt2]
        exact ⟨zHf, _, rfl, (pJ.set (Nat.le_succ _)).app _, rfl, zHf_nw⟩
      · rw [ho] at r57'
        simp (maxSteps := 4000000) (disch := first | omega | (refine _root_.id ?_; simp only [pl_int, pl_bool, pl_str, pl_undef, pl_nil, pl_ptr, plA_c, plA_agg, plA_tup, plV_c, plV_agg, List.all_cons, List.all_nil, Bool.and_true, Bool.and_self, eq_self, vi_int, vi_bool, get_app, get_app0, List.getElem?_cons_zero, List.getElem?_cons_succ, Option.join_some, lst_get, getL, upd_at, upd_ne, Nat.reduceBEq])) only [evC_skip, evC_ret, evC_region, evC_seq, ev_t, ev_k, putS_some, upd_l, putS_none, ops_nil, evC_condC, cond_bool, ops_cons, next_some, then_norm, done_ret, putL, getL, Option.bind_some, Option.map_some, evalOp, AV.cells?, readCells, writeCells, get_app0, List.getElem?_cons_zero, Option.join_some, List.length_cons, List.length_nil, List.nil_append, Nat.zero_add, Nat.reduceAdd, List.drop_zero, List.drop_succ_cons, List.take_zero, List.drop_nil, ↓reduceIte, evalRs, evalR, AV.toV0?, mkRes, V0.toAV, and_self, lst_get, eq_self, Bool.not_true, Bool.false_eq_true, List.append_nil, setAt, unA, finish_no, b2, r57', hl18, ht18, hok18, grow_ok, Nat.le_refl, get_appl lt2, set_appl lt2, get_set_app lt2]
        exact ⟨y, _, by rw [hR], (pJ.set (Nat.le_succ _)).app _, by rw [hy], ((hyN.setb (by simp)).pre pre_app).base pre_app⟩
    · have hC : cnR h.pr kd a = (zPr, 2) := by unfold cnR; rw [if_neg (fun h => ha h.2)]
      rw [hC]
      simp (maxSteps := 4000000) (disch := first | omega | (refine _root_.id ?_; simp only [pl_int, pl_bool, pl_str, pl_undef, pl_nil, pl_ptr, plA_c, plA_agg, plA_tup, plV_c, plV_agg, List.all_cons, List.all_nil, Bool.and_true, Bool.and_self, eq_self, vi_int, vi_bool, get_app, get_app0, List.getElem?_cons_zero, List.getElem?_cons_succ, Option.join_some, lst_get, getL, upd_at, upd_ne, Nat.reduceBEq])) only [evC_skip, evC_ret, evC_region, evC_seq, ev_t, ev_k, putS_some, upd_l, putS_none, ops_nil, ops_consg, guard_bool, evC_condC, cond_bool, ops_cons, next_some, then_norm, then_ret, done_ret, putL, getL, Option.bind_some, Option.map_some, evalOp, AV.cells?, readCells, writeCells, get_app, set_app, len_app, List.getElem?_cons_zero, List.getElem?_cons_succ, Option.join_some, List.length_cons, List.length_nil, List.append_assoc, List.cons_append, List.nil_append, Nat.zero_add, Nat.reduceAdd, Nat.reduceLeDiff, List.drop_zero, List.drop_succ_cons, List.take_zero, List.take_succ_cons, List.take_nil, List.drop_nil, ↓reduceIte, evalRs, evalR, AV.toV0?, mkRes, V0.toAV, decide_true, decide_false, and_self, lst_get, eq_self, List.all_cons, List.all_nil, Bool.and_true, Bool.not_true, Bool.not_false, Bool.false_eq_true, List.map_cons, List.map_nil, List.append_nil, setAt, CV.ok, List.set_cons_zero, List.set_cons_succ, unA, partsA, fillC, finish_no, r57, r95, r75, hk, ha]
      exact ⟨zHf, _, rfl, pre_app, rfl, zHf_nw⟩
  · have hC : cnR h.pr kd a = (zPr, 2) := by unfold cnR; rw [if_neg (fun h => hk h.1)]
    rw [hC]
    simp (maxSteps := 4000000) (disch := first | omega | (refine _root_.id ?_; simp only [pl_int, pl_bool, pl_str, pl_undef, pl_nil, pl_ptr, plA_c, plA_agg, plA_tup, plV_c, plV_agg, List.all_cons, List.all_nil, Bool.and_true, Bool.and_self, eq_self, vi_int, vi_bool, get_app, get_app0, List.getElem?_cons_zero, List.getElem?_cons_succ, Option.join_some, lst_get, getL, upd_at, upd_ne, Nat.reduceBEq])) only [evC_skip, evC_ret, evC_region, evC_seq, ev_t, ev_k, putS_some, upd_l, putS_none, ops_nil, ops_consg, guard_bool, evC_condC, cond_bool, ops_cons, next_some, then_norm, then_ret, done_ret, putL, getL, Option.bind_some, Option.map_some, evalOp, AV.cells?, readCells, writeCells, get_app, set_app, len_app, List.getElem?_cons_zero, List.getElem?_cons_succ, Option.join_some, List.length_cons, List.length_nil, List.append_assoc, List.cons_append, List.nil_append, Nat.zero_add, Nat.reduceAdd, Nat.reduceLeDiff, List.drop_zero, List.drop_succ_cons, List.take_zero, List.take_succ_cons, List.take_nil, List.drop_nil, ↓reduceIte, evalRs, evalR, AV.toV0?, mkRes, V0.toAV, decide_false, and_self, lst_get, eq_self, List.all_cons, List.all_nil, Bool.and_true, Bool.not_true, Bool.not_false, Bool.true_eq_false, Bool.false_eq_true, List.map_cons, List.map_nil, List.append_nil, setAt, CV.ok, List.set_cons_zero, List.set_cons_succ, unA, partsA, fillC, finish_no, r57, r95, hk]
    exact ⟨zHf, _, rfl, pre_app, rfl, zHf_nw⟩
/-! Tampers -/
structure Tm where
  k : Int
  to : Int
  ix : Int
  at_ : Int
abbrev trow (t : Tm) : List CV := [.int .i8 t.k, .int .i8 t.to, .int .i16 t.ix, .int .i16 t.at_]
def rngT (t : Tm) : Prop := ((-128 ≤ t.k ∧ t.k ≤ 127) ∧ -128 ≤ t.to ∧ t.to ≤ 127) ∧ (-32768 ≤ t.ix ∧ t.ix ≤ 32767) ∧ -32768 ≤ t.at_ ∧ t.at_ ≤ 32767
abbrev setN (xs : List Nt) (i : Nat) (k : Int) : List Nt := xs.set i ⟨k, (xs.getD i ⟨0, 0⟩).a⟩
/-- Widening a notch. -/
def wiR (p : Pr) (t : Tm) : Pr × Int :=
  if t.at_ = 0 ∧ (0 ≤ t.to ∧ t.to ≤ 5) ∧ 0 ≤ t.ix ∧ t.ix < p.xs.length then
    if t.to ≤ (p.xs.getD t.ix.toNat ⟨0, 0⟩).k then (zPr, 4)
    else if okH (setN p.xs t.ix.toNat t.to) p.g = true then (⟨p.st, setN p.xs t.ix.toNat t.to, p.g⟩, 0) else (zPr, 4)
  else (zPr, 2)
def tmR (p : Pr) (t : Tm) : Pr × Int :=
  if t.k = 1 then if t.ix = 0 then cnR p t.to t.at_ else (zPr, 2)
  else if t.k = 2 then wiR p t else (zPr, 2)
def isT (t : Tm) : Bool := decide ((0 ≤ t.to ∧ t.to ≤ 5) ∧ ((t.k = 1 ∧ t.ix = 0 ∧ 0 ≤ t.at_ ∧ t.at_ ≤ 200) ∨ (t.k = 2 ∧ t.at_ = 0 ∧ 0 ≤ t.ix ∧ t.ix < 60)))
theorem run44 {t : Tm} (H : AHeap) (ht : rngT t) : ev kk 44 [.agg (trow t)] H = some (.c (.bool (isT t)), H) := by
  obtain ⟨⟨⟨t1, t2⟩, t3, t4⟩, ⟨t5, t6⟩, t7, t8⟩ := ht
  have r97 := fun T => run48 t.to (H ++ T)
  rw [ev_call c44]; unfold k44; rw [evB_eq rfl]
  by_cases hk : 0 ≤ t.to ∧ t.to ≤ 5
  · by_cases k1 : t.k = 1
    · by_cases i0 : t.ix = 0
      · by_cases a0 : 0 ≤ t.at_
        · by_cases a1 : t.at_ ≤ 200
          · have e : isT t = true := decide_eq_true ⟨hk, .inl ⟨k1, i0, a0, a1⟩⟩
            simp (maxSteps := 4000000) (disch := first | omega | (refine _root_.id ?_; simp only [pl_int, pl_bool, pl_str, pl_undef, pl_nil, pl_ptr, plA_c, plA_agg, plA_tup, plV_c, plV_agg, List.all_cons, List.all_nil, Bool.and_true, Bool.and_self, eq_self, vi_int, vi_bool, get_app, get_app0, List.getElem?_cons_zero, List.getElem?_cons_succ, Option.join_some, lst_get, getL, upd_at, upd_ne, Nat.reduceBEq])) only [evC_skip, evC_ret, evC_region, evC_seq, evC_block, ev_t, ev_k, putS_some, upd_l, ops_nil, ops_consg, guard_bool, evC_condC, cond_bool, ops_cons, next_some, then_norm, then_ret, out_ret, done_ret, putL, getL, Option.bind_some, Option.map_some, evalOp, AV.cells?, readCell, get_app0, List.getElem?_cons_zero, List.getElem?_cons_succ, Option.join_some, Nat.zero_add, Nat.add_zero, ↓reduceIte, reduceCtorEq, binA, binC, intBin, or_false, or_true, evalRs, evalR, AV.toV0?, mkRes, V0.toAV, decide_true, and_self, lst_get, eq_self, IntWalk.i64_in, finish_app, beq_self_eq_true, Bool.not_true, Bool.false_eq_true, List.map_cons, List.map_nil, List.append_nil, unA, r97, hk, k1, i0, a0, a1, e]
          · have e : isT t = false := decide_eq_false (fun h => by omega)
            simp (maxSteps := 4000000) (disch := first | omega | (refine _root_.id ?_; simp only [pl_int, pl_bool, pl_str, pl_undef, pl_nil, pl_ptr, plA_c, plA_agg, plA_tup, plV_c, plV_agg, List.all_cons, List.all_nil, Bool.and_true, Bool.and_self, eq_self, vi_int, vi_bool, get_app, get_app0, List.getElem?_cons_zero, List.getElem?_cons_succ, Option.join_some, lst_get, getL, upd_at, upd_ne, Nat.reduceBEq])) only [evC_skip, evC_ret, evC_region, evC_seq, evC_block, ev_t, ev_k, putS_some, upd_l, ops_nil, ops_consg, guard_bool, evC_condC, cond_bool, ops_cons, next_some, then_norm, then_ret, out_ret, done_ret, putL, getL, Option.bind_some, Option.map_some, evalOp, AV.cells?, readCell, get_app0, List.getElem?_cons_zero, List.getElem?_cons_succ, Option.join_some, Nat.zero_add, Nat.add_zero, ↓reduceIte, reduceCtorEq, binA, binC, intBin, or_false, or_true, evalRs, evalR, AV.toV0?, mkRes, V0.toAV, decide_true, decide_false, and_self, lst_get, eq_self, IntWalk.i64_in, finish_app, beq_self_eq_true, Bool.not_true, Bool.false_eq_true, List.map_cons, List.map_nil, List.append_nil, unA, r97, hk, k1, i0, a0, a1, e]
        · have e : isT t = false := decide_eq_false (fun h => by omega)
          simp (maxSteps := 4000000) (disch := first | omega | (refine _root_.id ?_; simp only [pl_int, pl_bool, pl_str, pl_undef, pl_nil, pl_ptr, plA_c, plA_agg, plA_tup, plV_c, plV_agg, List.all_cons, List.all_nil, Bool.and_true, Bool.and_self, eq_self, vi_int, vi_bool, get_app, get_app0, List.getElem?_cons_zero, List.getElem?_cons_succ, Option.join_some, lst_get, getL, upd_at, upd_ne, Nat.reduceBEq])) only [evC_skip, evC_ret, evC_region, evC_seq, evC_block, ev_t, ev_k, putS_some, upd_l, ops_nil, ops_consg, guard_bool, evC_condC, cond_bool, ops_cons, next_some, then_norm, then_ret, out_ret, done_ret, putL, getL, Option.bind_some, Option.map_some, evalOp, AV.cells?, readCell, get_app0, List.getElem?_cons_zero, List.getElem?_cons_succ, Option.join_some, Nat.zero_add, Nat.add_zero, ↓reduceIte, reduceCtorEq, binA, binC, intBin, or_false, or_true, evalRs, evalR, AV.toV0?, mkRes, V0.toAV, decide_true, decide_false, and_self, lst_get, eq_self, IntWalk.i64_in, finish_app, beq_self_eq_true, Bool.not_true, Bool.false_eq_true, List.map_cons, List.map_nil, List.append_nil, unA, r97, hk, k1, i0, a0, e]
      · have e : isT t = false := decide_eq_false (fun h => by omega)
        have i0' : (t.ix == 0) = false := by simpa using i0
        simp (maxSteps := 4000000) (disch := first | omega | (refine _root_.id ?_; simp only [pl_int, pl_bool, pl_str, pl_undef, pl_nil, pl_ptr, plA_c, plA_agg, plA_tup, plV_c, plV_agg, List.all_cons, List.all_nil, Bool.and_true, Bool.and_self, eq_self, vi_int, vi_bool, get_app, get_app0, List.getElem?_cons_zero, List.getElem?_cons_succ, Option.join_some, lst_get, getL, upd_at, upd_ne, Nat.reduceBEq])) only [evC_skip, evC_ret, evC_region, evC_seq, evC_block, ev_t, ev_k, putS_some, upd_l, ops_nil, ops_consg, guard_bool, evC_condC, cond_bool, ops_cons, next_some, then_norm, then_ret, out_ret, done_ret, putL, getL, Option.bind_some, Option.map_some, evalOp, AV.cells?, readCell, get_app0, List.getElem?_cons_zero, List.getElem?_cons_succ, Option.join_some, Nat.zero_add, Nat.add_zero, ↓reduceIte, reduceCtorEq, binA, binC, intBin, or_false, or_true, evalRs, evalR, AV.toV0?, mkRes, V0.toAV, decide_true, and_self, lst_get, eq_self, IntWalk.i64_in, finish_app, beq_self_eq_true, Bool.not_true, Bool.false_eq_true, List.map_cons, List.map_nil, List.append_nil, unA, r97, hk, k1, i0', e]
    · have k1' : (t.k == 1) = false := by simpa using k1
      by_cases k2 : t.k = 2
      · by_cases i0 : t.at_ = 0
        · by_cases a0 : 0 ≤ t.ix
          · by_cases a1 : t.ix < 60
            · have e : isT t = true := decide_eq_true ⟨hk, .inr ⟨k2, i0, a0, a1⟩⟩
              simp (maxSteps := 4000000) (disch := first | omega | (refine _root_.id ?_; simp only [pl_int, pl_bool, pl_str, pl_undef, pl_nil, pl_ptr, plA_c, plA_agg, plA_tup, plV_c, plV_agg, List.all_cons, List.all_nil, Bool.and_true, Bool.and_self, eq_self, vi_int, vi_bool, get_app, get_app0, List.getElem?_cons_zero, List.getElem?_cons_succ, Option.join_some, lst_get, getL, upd_at, upd_ne, Nat.reduceBEq])) only [evC_skip, evC_ret, evC_region, evC_seq, evC_block, ev_t, ev_k, putS_some, upd_l, ops_nil, ops_consg, guard_bool, evC_condC, cond_bool, ops_cons, next_some, then_norm, then_ret, out_ret, done_ret, putL, getL, Option.bind_some, Option.map_some, evalOp, AV.cells?, readCell, get_app0, List.getElem?_cons_zero, List.getElem?_cons_succ, Option.join_some, Nat.zero_add, Nat.add_zero, ↓reduceIte, reduceCtorEq, binA, binC, intBin, or_false, or_true, evalRs, evalR, AV.toV0?, mkRes, V0.toAV, decide_true, and_self, lst_get, eq_self, IntWalk.i64_in, finish_app, beq_self_eq_true, Bool.not_true, Bool.false_eq_true, List.map_cons, List.map_nil, List.append_nil, unA, Int.reduceBEq, r97, hk, k2, i0, a0, a1, e]
            · have e : isT t = false := decide_eq_false (fun h => by omega)
              simp (maxSteps := 4000000) (disch := first | omega | (refine _root_.id ?_; simp only [pl_int, pl_bool, pl_str, pl_undef, pl_nil, pl_ptr, plA_c, plA_agg, plA_tup, plV_c, plV_agg, List.all_cons, List.all_nil, Bool.and_true, Bool.and_self, eq_self, vi_int, vi_bool, get_app, get_app0, List.getElem?_cons_zero, List.getElem?_cons_succ, Option.join_some, lst_get, getL, upd_at, upd_ne, Nat.reduceBEq])) only [evC_skip, evC_ret, evC_region, evC_seq, evC_block, ev_t, ev_k, putS_some, upd_l, ops_nil, ops_consg, guard_bool, evC_condC, cond_bool, ops_cons, next_some, then_norm, then_ret, out_ret, done_ret, putL, getL, Option.bind_some, Option.map_some, evalOp, AV.cells?, readCell, get_app0, List.getElem?_cons_zero, List.getElem?_cons_succ, Option.join_some, Nat.zero_add, Nat.add_zero, ↓reduceIte, reduceCtorEq, binA, binC, intBin, or_false, or_true, evalRs, evalR, AV.toV0?, mkRes, V0.toAV, decide_true, decide_false, and_self, lst_get, eq_self, IntWalk.i64_in, finish_app, beq_self_eq_true, Bool.not_true, Bool.false_eq_true, List.map_cons, List.map_nil, List.append_nil, unA, Int.reduceBEq, r97, hk, k2, i0, a0, a1, e]
          · have e : isT t = false := decide_eq_false (fun h => by omega)
            simp (maxSteps := 4000000) (disch := first | omega | (refine _root_.id ?_; simp only [pl_int, pl_bool, pl_str, pl_undef, pl_nil, pl_ptr, plA_c, plA_agg, plA_tup, plV_c, plV_agg, List.all_cons, List.all_nil, Bool.and_true, Bool.and_self, eq_self, vi_int, vi_bool, get_app, get_app0, List.getElem?_cons_zero, List.getElem?_cons_succ, Option.join_some, lst_get, getL, upd_at, upd_ne, Nat.reduceBEq])) only [evC_skip, evC_ret, evC_region, evC_seq, evC_block, ev_t, ev_k, putS_some, upd_l, ops_nil, ops_consg, guard_bool, evC_condC, cond_bool, ops_cons, next_some, then_norm, then_ret, out_ret, done_ret, putL, getL, Option.bind_some, Option.map_some, evalOp, AV.cells?, readCell, get_app0, List.getElem?_cons_zero, List.getElem?_cons_succ, Option.join_some, Nat.zero_add, Nat.add_zero, ↓reduceIte, reduceCtorEq, binA, binC, intBin, or_false, or_true, evalRs, evalR, AV.toV0?, mkRes, V0.toAV, decide_true, decide_false, and_self, lst_get, eq_self, IntWalk.i64_in, finish_app, beq_self_eq_true, Bool.not_true, Bool.false_eq_true, List.map_cons, List.map_nil, List.append_nil, unA, Int.reduceBEq, r97, hk, k2, i0, a0, e]
        · have e : isT t = false := decide_eq_false (fun h => by omega)
          have i0' : (t.at_ == 0) = false := by simpa using i0
          simp (maxSteps := 4000000) (disch := first | omega | (refine _root_.id ?_; simp only [pl_int, pl_bool, pl_str, pl_undef, pl_nil, pl_ptr, plA_c, plA_agg, plA_tup, plV_c, plV_agg, List.all_cons, List.all_nil, Bool.and_true, Bool.and_self, eq_self, vi_int, vi_bool, get_app, get_app0, List.getElem?_cons_zero, List.getElem?_cons_succ, Option.join_some, lst_get, getL, upd_at, upd_ne, Nat.reduceBEq])) only [evC_skip, evC_ret, evC_region, evC_seq, evC_block, ev_t, ev_k, putS_some, upd_l, ops_nil, ops_consg, guard_bool, evC_condC, cond_bool, ops_cons, next_some, then_norm, then_ret, out_ret, done_ret, putL, getL, Option.bind_some, Option.map_some, evalOp, AV.cells?, readCell, get_app0, List.getElem?_cons_zero, List.getElem?_cons_succ, Option.join_some, Nat.zero_add, Nat.add_zero, ↓reduceIte, reduceCtorEq, binA, binC, intBin, or_false, or_true, evalRs, evalR, AV.toV0?, mkRes, V0.toAV, decide_true, and_self, lst_get, eq_self, IntWalk.i64_in, finish_app, beq_self_eq_true, Bool.not_true, Bool.false_eq_true, List.map_cons, List.map_nil, List.append_nil, unA, Int.reduceBEq, r97, hk, k2, i0', e]
      · have k2' : (t.k == 2) = false := by simpa using k2
        have e : isT t = false := decide_eq_false (fun h => by omega)
        simp (maxSteps := 4000000) (disch := first | omega | (refine _root_.id ?_; simp only [pl_int, pl_bool, pl_str, pl_undef, pl_nil, pl_ptr, plA_c, plA_agg, plA_tup, plV_c, plV_agg, List.all_cons, List.all_nil, Bool.and_true, Bool.and_self, eq_self, vi_int, vi_bool, get_app, get_app0, List.getElem?_cons_zero, List.getElem?_cons_succ, Option.join_some, lst_get, getL, upd_at, upd_ne, Nat.reduceBEq])) only [evC_skip, evC_ret, evC_region, evC_seq, evC_block, ev_t, ev_k, putS_some, upd_l, ops_nil, evC_condC, cond_bool, ops_cons, next_some, then_norm, out_norm, done_ret, putL, getL, Option.bind_some, Option.map_some, evalOp, AV.cells?, readCell, get_app0, List.getElem?_cons_zero, List.getElem?_cons_succ, Option.join_some, Nat.zero_add, Nat.add_zero, ↓reduceIte, reduceCtorEq, binA, binC, intBin, or_false, or_true, evalRs, evalR, AV.toV0?, mkRes, V0.toAV, decide_true, and_self, lst_get, eq_self, IntWalk.i64_in, finish_app, Bool.not_true, Bool.false_eq_true, List.map_cons, List.map_nil, List.append_nil, unA, r97, hk, k1', k2', e]
  · have e : isT t = false := decide_eq_false (fun h => hk h.1)
    simp (maxSteps := 4000000) (disch := first | omega | (refine _root_.id ?_; simp only [pl_int, pl_bool, pl_str, pl_undef, pl_nil, pl_ptr, plA_c, plA_agg, plA_tup, plV_c, plV_agg, List.all_cons, List.all_nil, Bool.and_true, Bool.and_self, eq_self, vi_int, vi_bool, get_app, get_app0, List.getElem?_cons_zero, List.getElem?_cons_succ, Option.join_some, lst_get, getL, upd_at, upd_ne, Nat.reduceBEq])) only [evC_ret, evC_region, evC_seq, ev_t, ev_k, putS_some, upd_l, ops_nil, evC_condC, cond_bool, ops_cons, next_some, then_norm, then_ret, done_ret, putL, getL, Option.bind_some, Option.map_some, evalOp, AV.cells?, readCell, get_app0, List.getElem?_cons_zero, List.getElem?_cons_succ, Option.join_some, Nat.zero_add, ↓reduceIte, evalRs, evalR, AV.toV0?, mkRes, V0.toAV, decide_false, lst_get, eq_self, IntWalk.i64_in, finish_app, Bool.not_false, List.map_cons, List.map_nil, List.append_nil, unA, r97, hk, e]
end Go.Proofs.YtcfabmmonoljeaaDoor
