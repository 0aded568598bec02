/- What functions of the program answer: part Sure. -/
import Derived.Test.YtnblibimbggheaaSums
set_option linter.unusedVariables false
set_option linter.unusedSimpArgs false
set_option linter.unusedSectionVars false
namespace Go.Proofs.Ytnblibimbggheaa
open Go Go.Proofs.Ytnblibimbggheaa.VI
set_option maxHeartbeats 16000000
set_option maxRecDepth 20000
section
variable {x y : Hf} {H : AHeap}
def suA (x y : Hf) : Int := if pcR x [y] = 0 then if liR x y = 3 then 0 else if liR x y = 1 then sumN y.xs else sumN x.xs else 0
def suC (x y : Hf) : Int := if pcR x [y] = 0 then if liR x y = 3 then 8 else 0 else pcR x [y]
theorem run26 (hx : HfAt H x) (hy : HfAt H y) : ev kk 26 [.agg (hfr x), .agg (hfr y)] H = some (.tup [.c (.int .i64 (suA x y)), .c (.int .i64 (suC x y))], H) := by
  have rw_ := fun T => run25 (hx.app T) (hy.app T)
  unfold whL at rw_
  unfold suA suC
  by_cases h : pcR x [y] = 0
  · obtain ⟨h1, h2, _, _⟩ := pcR_ok h
    have h2 : okF y = true := by simpa using h2
    have s1 := fun T => run54 h1 (hx.app T)
    have s2 := fun T => run54 h2 (hy.app T)
    simp only [h, if_true] at rw_ ⊢
    by_cases c3 : liR x y = 3
    · simp only [c3] at rw_
      rw [ev_call c26]; unfold k26; rw [evB_eq rfl]
      simp (maxSteps := 4000000) (disch := first | omega | (refine _root_.id ?_; simp only [pl_int, pl_bool, pl_str, pl_undef, pl_nil, pl_ptr, plA_c, plA_agg, plA_tup, plV_c, plV_agg, List.all_cons, List.all_nil, Bool.and_true, Bool.and_self, eq_self, vi_int, vi_bool, get_app, get_app0, List.getElem?_cons_zero, List.getElem?_cons_succ, Option.join_some, lst_get, getL, upd_at, upd_ne, Nat.reduceBEq])) only [evC_ret, evC_region, evC_seq, evC_block, ev_t, ev_k, putS_some, upd_l, ops_nil, evC_condC, cond_bool, ops_cons, next_some, then_norm, then_ret, out_ret, done_ret, putL, getL, Option.bind_some, Option.map_some, evalOp, AV.cells?, readCells, get_app, get_app0, len_app, List.getElem?_cons_zero, List.getElem?_cons_succ, Option.join_some, List.length_cons, List.length_nil, List.append_assoc, List.cons_append, List.nil_append, Nat.zero_add, Nat.reduceAdd, List.drop_zero, List.take_succ_cons, ↓reduceIte, reduceCtorEq, binA, binC, intBin, or_false, or_true, evalRs, evalR, AV.toV0?, mkRes, V0.toAV, lst_get, eq_self, finish_app, beq_self_eq_true, Bool.false_eq_true, List.map_cons, List.map_nil, List.append_nil, bne_self_eq_false, gl, gt, Nat.le_refl, rw_, c3]
    · have c3' : (liR x y == 3) = false := by simpa using c3
      by_cases c1 : liR x y = 1
      · simp only [c1] at rw_
        rw [ev_call c26]; unfold k26; rw [evB_eq rfl]
        simp (maxSteps := 4000000) (disch := first | omega | (refine _root_.id ?_; simp only [pl_int, pl_bool, pl_str, pl_undef, pl_nil, pl_ptr, plA_c, plA_agg, plA_tup, plV_c, plV_agg, List.all_cons, List.all_nil, Bool.and_true, Bool.and_self, eq_self, vi_int, vi_bool, get_app, get_app0, List.getElem?_cons_zero, List.getElem?_cons_succ, Option.join_some, lst_get, getL, upd_at, upd_ne, Nat.reduceBEq])) only [evC_ret, evC_region, evC_seq, evC_block, ev_t, ev_k, putS_some, upd_l, ops_nil, evC_condC, cond_bool, ops_cons, next_some, then_norm, then_ret, out_ret, done_ret, putL, getL, Option.bind_some, Option.map_some, evalOp, AV.cells?, readCells, get_app, get_app0, len_app, List.getElem?_cons_zero, List.getElem?_cons_succ, Option.join_some, List.length_cons, List.length_nil, List.append_assoc, List.cons_append, List.nil_append, Nat.zero_add, Nat.reduceAdd, List.drop_zero, List.take_succ_cons, ↓reduceIte, reduceCtorEq, binA, binC, intBin, or_false, or_true, evalRs, evalR, AV.toV0?, mkRes, V0.toAV, lst_get, eq_self, finish_app, beq_self_eq_true, Bool.false_eq_true, List.map_cons, List.map_nil, List.append_nil, bne_self_eq_false, Int.reduceEq, Int.reduceBEq, gl, gt, Nat.le_refl, rw_, c1, s2]
      · have c1' : (liR x y == 1) = false := by simpa using c1
        rw [ev_call c26]; unfold k26; rw [evB_eq rfl]
        simp (maxSteps := 4000000) (disch := first | omega | (refine _root_.id ?_; simp only [pl_int, pl_bool, pl_str, pl_undef, pl_nil, pl_ptr, plA_c, plA_agg, plA_tup, plV_c, plV_agg, List.all_cons, List.all_nil, Bool.and_true, Bool.and_self, eq_self, vi_int, vi_bool, get_app, get_app0, List.getElem?_cons_zero, List.getElem?_cons_succ, Option.join_some, lst_get, getL, upd_at, upd_ne, Nat.reduceBEq])) only [evC_skip, evC_ret, evC_region, evC_seq, evC_block, ev_t, ev_k, putS_some, upd_l, ops_nil, evC_condC, cond_bool, ops_cons, next_some, then_norm, out_norm, done_ret, putL, getL, Option.bind_some, Option.map_some, evalOp, AV.cells?, readCells, get_app, get_app0, len_app, List.getElem?_cons_zero, List.getElem?_cons_succ, Option.join_some, List.length_cons, List.length_nil, List.append_assoc, List.cons_append, List.nil_append, Nat.zero_add, Nat.reduceAdd, List.drop_zero, List.take_succ_cons, ↓reduceIte, reduceCtorEq, binA, binC, intBin, or_false, or_true, evalRs, evalR, AV.toV0?, mkRes, V0.toAV, lst_get, eq_self, finish_app, Bool.false_eq_true, List.map_cons, List.map_nil, List.append_nil, bne_self_eq_false, gl, gt, Nat.le_refl, rw_, c3, c3', c1, c1', s1]
  · have h' : (pcR x [y] != 0) = true := by simpa using h
    simp only [h, if_false] at rw_ ⊢
    rw [ev_call c26]; unfold k26; rw [evB_eq rfl]
    simp (maxSteps := 4000000) (disch := first | omega | (refine _root_.id ?_; simp only [pl_int, pl_bool, pl_str, pl_undef, pl_nil, pl_ptr, plA_c, plA_agg, plA_tup, plV_c, plV_agg, List.all_cons, List.all_nil, Bool.and_true, Bool.and_self, eq_self, vi_int, vi_bool, get_app, get_app0, List.getElem?_cons_zero, List.getElem?_cons_succ, Option.join_some, lst_get, getL, upd_at, upd_ne, Nat.reduceBEq])) only [evC_ret, evC_region, evC_seq, evC_block, ev_t, ev_k, putS_some, upd_l, ops_nil, evC_condC, cond_bool, ops_cons, next_some, then_norm, then_ret, out_ret, done_ret, putL, getL, Option.bind_some, Option.map_some, evalOp, AV.cells?, readCells, get_app, get_app0, len_app, List.getElem?_cons_zero, List.getElem?_cons_succ, Option.join_some, List.length_cons, List.length_nil, List.append_assoc, List.cons_append, List.nil_append, Nat.zero_add, Nat.reduceAdd, List.drop_zero, List.take_succ_cons, ↓reduceIte, reduceCtorEq, binA, binC, intBin, or_false, or_true, evalRs, evalR, AV.toV0?, mkRes, V0.toAV, lst_get, eq_self, finish_app, List.map_cons, List.map_nil, List.append_nil, gl, gt, Nat.le_refl, rw_, h']
end
end Go.Proofs.Ytnblibimbggheaa
