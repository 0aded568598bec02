/- What functions of the program answer: part Cut2. -/
import Derived.Test.YtcfabmmonoljeaaDoorCut
set_option linter.unusedVariables false
set_option linter.unusedSimpArgs false
set_option linter.unusedSectionVars false
namespace Go.Proofs.YtcfabmmonoljeaaDoor
open Go Go.Proofs.YtcfabmmonoljeaaDoor.VI
set_option maxHeartbeats 16000000
set_option maxRecDepth 20000
/-! A half's contents -/
structure Pr where
  st : Bool
  xs : List Nt
  g : List Int
abbrev Hf.pr (h : Hf) : Pr := ⟨h.st, h.xs, h.g⟩
def zPr : Pr := ⟨false, [], List.replicate 16 0⟩
def okP (p : Pr) : Bool := okH p.xs p.g
/-- Cutting a further notch. -/
def cnR (p : Pr) (k a : Int) : Pr × Int := if (0 ≤ k ∧ k ≤ 5) ∧ 0 ≤ a ∧ a ≤ 200 then if okH (cutP p.xs k a) p.g = true then (⟨p.st, cutP p.xs k a, p.g⟩, 0) else (zPr, 4) else (zPr, 2)
def zHf : Hf := ⟨false, none, .exact 0, [], List.replicate 16 0, rfl⟩
theorem zHf_nw {H J : AHeap} : HfNw H J zHf := ⟨by simp [zHf], fun x h => by simp [zHf] at h, fun h => by simp [zHf] at h⟩
theorem okF_few {h : Hf} (o : okF h = true) : h.xs.length ≤ 60 := (okH_p o).1
theorem run67 {h : Hf} {kd a : Int} {H : AHeap} (hh : HfAt H h) (ok : okF h = true) : ∃ y J, ev kk 67 [.agg (hfr h), .c (.int .i64 kd), .c (.int .i64 a)] H = some (.tup [.agg (hfr y), .c (.int .i64 (cnR h.pr kd a).2)], J) ∧ Pre H J ∧ y.pr = (cnR h.pr kd a).1 ∧ HfNw H J y := by
  have r59 := fun T => v70 (hh.app T)
  rw [ok] at r59
  have hl18 := hfr_len h
  have ht18 : List.take 18 (hfr h) = hfr h := List.take_of_length_le (by omega)
  have hok18 : (hfr h).all CV.ok = true := by simp only [List.all_cons, grow_ok]; rfl
  have few := okF_few ok
  rw [ev_call c67]; unfold k67; rw [evB_eq rfl]
  have r97 := fun T => run48 kd (H ++ T)
  by_cases hk : 0 ≤ kd ∧ kd ≤ 5
  · by_cases ha : 0 ≤ a ∧ a ≤ 200
    · obtain ⟨y, J, e1, p1, y1, y2, y3, y4⟩ := run81 (h := h) (kd := kd) (a := a) (hh.app [hfb h, zbl]) hk ha (by omega)
      have b1 := p1.get (show AHeap.get (H ++ [hfb h, zbl]) (H.length + 1) = zbl by rw [get_app]; rfl)
      have a1 : ¬ a < 0 := by omega
      have a2 : ¬ 200 < a := by omega
      have hl18y := hfr_len y
      have ht18y : List.take 18 (hfr y) = hfr y := List.take_of_length_le (by omega)
      have hok18y : (hfr y).all CV.ok = true := by simp only [List.all_cons, grow_ok]; rfl
      have lt1 : H.length + 1 < J.length := get_some_lt b1
      have pJ : Pre H J := pre_app.trans p1
      obtain ⟨R, hR⟩ : ∃ R, R = hfr h := ⟨_, rfl⟩
      obtain ⟨R', hR'⟩ : ∃ R, R = hfr y := ⟨_, rfl⟩
      have hzb : hfb h = some ⟨29, R, .own⟩ := by rw [hR]
      rw [hzb] at e1
      rw [← hR] at r59 e1 hl18 ht18 hok18 ⊢
      rw [← hR'] at e1 hl18y ht18y hok18y
      have hyo : okH (cutP h.xs kd a) h.g = okF y := by unfold okF; rw [y3, y2]
      have hC : cnR h.pr kd a = if okF y = true then (⟨h.st, cutP h.xs kd a, h.g⟩, 0) else (zPr, 4) := by unfold cnR; rw [if_pos ⟨hk, ha⟩]; dsimp only; rw [hyo]
      rw [hC]
      cases ho : okF y
      · rw [ho] at e1
        simp (maxSteps := 4000000) (disch := first | omega | (refine _root_.id ?_; simp only [pl_int, pl_bool, pl_str, pl_undef, pl_nil, pl_ptr, plA_c, plA_agg, plA_tup, plV_c, plV_agg, List.all_cons, List.all_nil, Bool.and_true, Bool.and_self, eq_self, vi_int, vi_bool, get_app, get_app0, List.getElem?_cons_zero, List.getElem?_cons_succ, Option.join_some, lst_get, getL, upd_at, upd_ne, Nat.reduceBEq])) only [evC_skip, evC_ret, evC_region, evC_seq, evC_block, ev_t, ev_k, putS_some, upd_l, putS_none, ops_nil, ops_consg, guard_bool, evC_condC, cond_bool, ops_cons, next_some, then_norm, then_ret, out_norm, done_ret, putL, getL, Option.bind_some, Option.map_some, evalOp, AV.cells?, readCells, writeCells, get_app0, set_app0, len_app, List.getElem?_cons_zero, List.getElem?_cons_succ, Option.join_some, List.length_cons, List.length_nil, List.append_assoc, List.cons_append, List.nil_append, Nat.zero_add, Nat.reduceAdd, List.drop_zero, List.drop_succ_cons, List.take_zero, List.take_succ_cons, List.take_nil, List.drop_nil, ↓reduceIte, reduceCtorEq, binA, binC, intBin, or_false, or_true, evalRs, evalR, AV.toV0?, mkRes, V0.toAV, decide_true, decide_false, and_self, lst_get, eq_self, List.all_cons, List.all_nil, Bool.and_true, Bool.not_true, Bool.not_false, Bool.false_eq_true, List.map_cons, List.map_nil, List.append_nil, setAt, CV.ok, List.set_cons_zero, unA, partsA, fillC, finish_no, hl18, ht18, Nat.le_refl, r59, r97, hk, a1, a2, e1, hl18y, hok18y, b1, get_appl lt1, set_appl lt1, get_set_app lt1]
        exact ⟨zHf, _, rfl, (pJ.set (Nat.le_succ _)).app _, rfl, zHf_nw⟩
      · rw [ho] at e1
        simp (maxSteps := 4000000) (disch := first | omega | (refine _root_.id ?_; simp only [pl_int, pl_bool, pl_str, pl_undef, pl_nil, pl_ptr, plA_c, plA_agg, plA_tup, plV_c, plV_agg, List.all_cons, List.all_nil, Bool.and_true, Bool.and_self, eq_self, vi_int, vi_bool, get_app, get_app0, List.getElem?_cons_zero, List.getElem?_cons_succ, Option.join_some, lst_get, getL, upd_at, upd_ne, Nat.reduceBEq])) only [evC_skip, evC_ret, evC_region, evC_seq, evC_block, ev_t, ev_k, putS_some, upd_l, putS_none, ops_nil, ops_consg, guard_bool, evC_condC, cond_bool, ops_cons, next_some, then_norm, out_norm, done_ret, putL, getL, Option.bind_some, Option.map_some, evalOp, AV.cells?, readCells, writeCells, get_app0, set_app0, len_app, List.getElem?_cons_zero, List.getElem?_cons_succ, Option.join_some, List.length_cons, List.length_nil, List.append_assoc, List.cons_append, List.nil_append, Nat.zero_add, Nat.reduceAdd, List.drop_zero, List.drop_succ_cons, List.take_zero, List.drop_nil, ↓reduceIte, reduceCtorEq, binA, binC, intBin, or_false, or_true, evalRs, evalR, AV.toV0?, mkRes, V0.toAV, decide_true, decide_false, and_self, lst_get, eq_self, Bool.not_true, Bool.false_eq_true, List.map_cons, List.map_nil, List.append_nil, setAt, List.set_cons_zero, unA, finish_no, hl18, ht18, Nat.le_refl, r59, r97, hk, a1, a2, e1, hl18y, ht18y, hok18y, b1, get_appl lt1, set_appl lt1, get_set_app lt1]
        exact ⟨y, _, by rw [hR'], (pJ.set (Nat.le_succ _)).app _, by rw [← y1, ← y2, ← y3], ((y4.setb (by simp)).pre pre_app).base pre_app⟩
    · have hC : cnR h.pr kd a = (zPr, 2) := by unfold cnR; rw [if_neg (fun h => ha h.2)]
      rw [hC]
      by_cases a1 : a < 0
      · simp (maxSteps := 4000000) (disch := first | omega | (refine _root_.id ?_; simp only [pl_int, pl_bool, pl_str, pl_undef, pl_nil, pl_ptr, plA_c, plA_agg, plA_tup, plV_c, plV_agg, List.all_cons, List.all_nil, Bool.and_true, Bool.and_self, eq_self, vi_int, vi_bool, get_app, get_app0, List.getElem?_cons_zero, List.getElem?_cons_succ, Option.join_some, lst_get, getL, upd_at, upd_ne, Nat.reduceBEq])) only [evC_ret, evC_region, evC_seq, evC_block, ev_t, ev_k, putS_some, upd_l, putS_none, ops_nil, ops_consg, guard_bool, evC_condC, cond_bool, ops_cons, next_some, then_norm, then_ret, out_ret, done_ret, putL, getL, Option.bind_some, Option.map_some, evalOp, AV.cells?, readCells, writeCells, get_app, get_app0, set_app, len_app, List.getElem?_cons_zero, List.getElem?_cons_succ, Option.join_some, List.length_cons, List.length_nil, List.append_assoc, List.cons_append, List.nil_append, Nat.zero_add, Nat.reduceAdd, List.drop_zero, List.drop_succ_cons, List.take_zero, List.take_succ_cons, List.take_nil, List.drop_nil, ↓reduceIte, reduceCtorEq, binA, binC, intBin, or_false, or_true, evalRs, evalR, AV.toV0?, mkRes, V0.toAV, decide_true, and_self, lst_get, eq_self, List.all_cons, List.all_nil, Bool.and_true, Bool.not_true, Bool.not_false, Bool.true_eq_false, Bool.false_eq_true, List.map_cons, List.map_nil, List.append_nil, setAt, CV.ok, List.set_cons_zero, List.set_cons_succ, unA, partsA, fillC, finish_no, hl18, ht18, Nat.le_refl, r59, r97, hk, a1]
        exact ⟨zHf, _, rfl, pre_app, rfl, zHf_nw⟩
      · have a2 : 200 < a := by omega
        simp (maxSteps := 4000000) (disch := first | omega | (refine _root_.id ?_; simp only [pl_int, pl_bool, pl_str, pl_undef, pl_nil, pl_ptr, plA_c, plA_agg, plA_tup, plV_c, plV_agg, List.all_cons, List.all_nil, Bool.and_true, Bool.and_self, eq_self, vi_int, vi_bool, get_app, get_app0, List.getElem?_cons_zero, List.getElem?_cons_succ, Option.join_some, lst_get, getL, upd_at, upd_ne, Nat.reduceBEq])) only [evC_ret, evC_region, evC_seq, evC_block, ev_t, ev_k, putS_some, upd_l, putS_none, ops_nil, ops_consg, guard_bool, evC_condC, cond_bool, ops_cons, next_some, then_norm, then_ret, out_ret, done_ret, putL, getL, Option.bind_some, Option.map_some, evalOp, AV.cells?, readCells, writeCells, get_app, get_app0, set_app, len_app, List.getElem?_cons_zero, List.getElem?_cons_succ, Option.join_some, List.length_cons, List.length_nil, List.append_assoc, List.cons_append, List.nil_append, Nat.zero_add, Nat.reduceAdd, List.drop_zero, List.drop_succ_cons, List.take_zero, List.take_succ_cons, List.take_nil, List.drop_nil, ↓reduceIte, reduceCtorEq, binA, binC, intBin, or_false, or_true, evalRs, evalR, AV.toV0?, mkRes, V0.toAV, decide_true, decide_false, and_self, lst_get, eq_self, List.all_cons, List.all_nil, Bool.and_true, Bool.not_true, Bool.false_eq_true, List.map_cons, List.map_nil, List.append_nil, setAt, CV.ok, List.set_cons_zero, List.set_cons_succ, unA, partsA, fillC, finish_no, hl18, ht18, Nat.le_refl, r59, r97, hk, a1, a2]
        exact ⟨zHf, _, rfl, pre_app, rfl, zHf_nw⟩
  · have hC : cnR h.pr kd a = (zPr, 2) := by unfold cnR; rw [if_neg (fun h => hk h.1)]
    rw [hC]
    simp (maxSteps := 4000000) (disch := first | omega | (refine _root_.id ?_; simp only [pl_int, pl_bool, pl_str, pl_undef, pl_nil, pl_ptr, plA_c, plA_agg, plA_tup, plV_c, plV_agg, List.all_cons, List.all_nil, Bool.and_true, Bool.and_self, eq_self, vi_int, vi_bool, get_app, get_app0, List.getElem?_cons_zero, List.getElem?_cons_succ, Option.join_some, lst_get, getL, upd_at, upd_ne, Nat.reduceBEq])) only [evC_ret, evC_region, evC_seq, evC_block, ev_t, ev_k, putS_some, upd_l, putS_none, ops_nil, ops_consg, guard_bool, evC_condC, cond_bool, ops_cons, next_some, then_norm, then_ret, out_ret, done_ret, putL, getL, Option.bind_some, Option.map_some, evalOp, AV.cells?, readCells, writeCells, get_app, get_app0, set_app, len_app, List.getElem?_cons_zero, List.getElem?_cons_succ, Option.join_some, List.length_cons, List.length_nil, List.append_assoc, List.cons_append, List.nil_append, Nat.zero_add, Nat.reduceAdd, List.drop_zero, List.drop_succ_cons, List.take_zero, List.take_succ_cons, List.take_nil, List.drop_nil, ↓reduceIte, evalRs, evalR, AV.toV0?, mkRes, V0.toAV, decide_false, and_self, lst_get, eq_self, List.all_cons, List.all_nil, Bool.and_true, Bool.not_true, Bool.not_false, Bool.true_eq_false, Bool.false_eq_true, List.map_cons, List.map_nil, List.append_nil, setAt, CV.ok, List.set_cons_zero, List.set_cons_succ, unA, partsA, fillC, finish_no, hl18, ht18, Nat.le_refl, r59, r97, hk]
    exact ⟨zHf, _, rfl, pre_app, rfl, zHf_nw⟩
end Go.Proofs.YtcfabmmonoljeaaDoor
