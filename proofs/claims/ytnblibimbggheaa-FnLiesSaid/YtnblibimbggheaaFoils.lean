/- What functions of the program answer: part Foils. -/
import Derived.Test.YtnblibimbggheaaGrains
set_option linter.unusedVariables false
set_option linter.unusedSimpArgs false
set_option linter.unusedSectionVars false
namespace Go.Proofs.Ytnblibimbggheaa
open Go Go.Proofs.Ytnblibimbggheaa.VI
set_option maxHeartbeats 16000000
set_option maxRecDepth 20000
/-! Halves in a slice -/
section
variable {hs : List Hf} {i : Nat} (hi : i < hs.length)
include hi
theorem hr0 : (hrows hs)[i * 18]? = some (.bool (hs[i]'hi).st) := by
  have := rows_get hfr_len hi (j := 0) (by omega); simpa using this
theorem hr1 : (hrows hs)[i * 18 + 1]? = some (.slice (hs[i]'hi).p (hs[i]'hi).xs.length (hs[i]'hi).cap) := by
  have := rows_get hfr_len hi (j := 1) (by omega); simpa using this
theorem hr2 : ((hrows hs).drop (i * 18 + 2)).take 16 = grow (hs[i]'hi).g := by
  have h := hcut hi
  have h2 : ((hrows hs).drop (i * 18 + 2)).take 16 = (((hrows hs).drop (i * 18)).take 18).drop 2 := by
    rw [List.drop_take, List.drop_drop]
  rw [h2, h]; rfl
end
/-! Whether they fit -/
theorem run70 {s h : Hf} {H : AHeap} (hs : HfAt H s) (hh : HfAt H h) (w : Int) : ev kk 70 [.agg (hfr s), .agg (hfr h), .c (.int .i64 w)] H = some (.c (.bool (ftB s h w)), H) := by
  have r121 := fun T => run105 (cap := s.cap) (cap' := h.cap) hs.few hh.few (hs.at_.app T) (hh.at_.app T)
  have r123 := fun H => run107 s.g16 h.g16 w H
  unfold ftB
  cases hE : eqN s.xs h.xs
  · simp only [hE] at r121
    rw [ev_call c70]; unfold k70; rw [evB_eq rfl]
    simp (maxSteps := 4000000) (disch := first | omega | (refine _root_.id ?_; simp only [pl_int, pl_bool, pl_str, pl_undef, pl_nil, pl_ptr, plA_c, plA_agg, plA_tup, plV_c, plV_agg, List.all_cons, List.all_nil, Bool.and_true, Bool.and_self, eq_self, vi_int, vi_bool, get_app, get_app0, List.getElem?_cons_zero, List.getElem?_cons_succ, Option.join_some, lst_get, getL, upd_at, upd_ne, Nat.reduceBEq])) only [evC_ret, evC_region, evC_seq, ev_t, ev_k, putS_some, upd_l, ops_nil, ops_consg, guard_bool, ops_cons, next_some, then_norm, done_ret, putL, getL, Option.bind_some, Option.map_some, evalOp, AV.cells?, readCell, get_app, get_app0, len_app, List.getElem?_cons_zero, List.getElem?_cons_succ, Option.join_some, List.length_cons, List.length_nil, List.append_assoc, List.cons_append, List.nil_append, Nat.zero_add, ↓reduceIte, evalRs, evalR, AV.toV0?, mkRes, V0.toAV, lst_get, eq_self, finish_app, Bool.not_true, Bool.false_eq_true, List.map_cons, List.map_nil, List.append_nil, r121, Bool.false_and]
  · simp only [hE] at r121
    rw [ev_call c70]; unfold k70; rw [evB_eq rfl]
    simp (maxSteps := 4000000) (disch := first | omega | (refine _root_.id ?_; simp only [pl_int, pl_bool, pl_str, pl_undef, pl_nil, pl_ptr, plA_c, plA_agg, plA_tup, plV_c, plV_agg, List.all_cons, List.all_nil, Bool.and_true, Bool.and_self, eq_self, vi_int, vi_bool, get_app, get_app0, List.getElem?_cons_zero, List.getElem?_cons_succ, Option.join_some, lst_get, getL, upd_at, upd_ne, Nat.reduceBEq])) only [evC_ret, evC_region, evC_seq, ev_t, ev_k, putS_some, upd_l, ops_nil, ops_consg, guard_bool, ops_cons, next_some, then_norm, done_ret, putL, getL, Option.bind_some, Option.map_some, evalOp, AV.cells?, readCells, readCell, get_app, get_app0, len_app, List.getElem?_cons_zero, List.getElem?_cons_succ, Option.join_some, List.length_cons, List.length_nil, List.append_assoc, List.cons_append, List.nil_append, Nat.zero_add, Nat.reduceAdd, List.drop_zero, List.drop_succ_cons, ↓reduceIte, evalRs, evalR, AV.toV0?, mkRes, V0.toAV, lst_get, eq_self, finish_app, Bool.true_and, List.map_cons, List.map_nil, List.append_nil, gl, gt, r121, r123, Bool.true_and, Nat.le_refl]
theorem run76 {s h : Hf} {H : AHeap} (hs : HfAt H s) (hh : HfAt H h) (w : Int) {i : Nat} {e : TypeId} {m : BM} (hi : H.get i = some ⟨e, hfr s, m⟩) {j off : Nat} {b : Blk} (hj : H.get j = some b) (h1 : b.cells[off + 1]? = some (.slice h.p h.xs.length h.cap)) (h2 : (b.cells.drop (off + 2)).take 16 = grow h.g) (h3 : off + 2 + 16 ≤ b.cells.length) : ev kk 76 [.c (.ptr (some (i, 0))), .c (.ptr (some (j, off))), .c (.int .i64 w)] H = some (.c (.bool (ftB s h w)), H) := by
  have r120 := run109 (cap := s.cap) (cap' := h.cap) hs.few hh.few hs.at_ hh.at_
  have r122 := fun H => run110 s.g16 h.g16 w H
  unfold ftB
  cases hE : eqN s.xs h.xs
  · rw [hE] at r120
    rw [ev_call c76]; unfold k76; rw [evB_eq rfl]
    simp (maxSteps := 4000000) (disch := first | omega | (refine _root_.id ?_; simp only [pl_int, pl_bool, pl_str, pl_undef, pl_nil, pl_ptr, plA_c, plA_agg, plA_tup, plV_c, plV_agg, List.all_cons, List.all_nil, Bool.and_true, Bool.and_self, eq_self, vi_int, vi_bool, get_app, get_app0, List.getElem?_cons_zero, List.getElem?_cons_succ, Option.join_some, lst_get, getL, upd_at, upd_ne, Nat.reduceBEq])) only [evC_ret, evC_region, evC_seq, ev_t, ev_k, putS_some, upd_l, ops_nil, ops_consg, guard_bool, ops_cons, next_some, nextD_some, then_norm, done_ret, putL, getL, Option.bind_some, Option.map_some, evalOp, readCell, List.getElem?_cons_zero, List.getElem?_cons_succ, Nat.zero_add, ↓reduceIte, evalRs, evalR, AV.toV0?, mkRes, V0.toAV, lst_get, eq_self, finish_id, Bool.not_true, Bool.false_eq_true, List.map_cons, List.map_nil, List.append_nil, evC_drawn, dr_nil, dr_cons, chk_nil, hi, hj, h1, r120, Bool.false_and]
  · rw [hE] at r120
    rw [ev_call c76]; unfold k76; rw [evB_eq rfl]
    simp (maxSteps := 4000000) (disch := first | omega | (refine _root_.id ?_; simp only [pl_int, pl_bool, pl_str, pl_undef, pl_nil, pl_ptr, plA_c, plA_agg, plA_tup, plV_c, plV_agg, List.all_cons, List.all_nil, Bool.and_true, Bool.and_self, eq_self, vi_int, vi_bool, get_app, get_app0, List.getElem?_cons_zero, List.getElem?_cons_succ, Option.join_some, lst_get, getL, upd_at, upd_ne, Nat.reduceBEq])) only [evC_ret, evC_region, evC_seq, ev_t, ev_k, putS_some, upd_l, ops_nil, ops_consg, guard_bool, ops_cons, next_some, nextD_some, then_norm, done_ret, putL, getL, Option.bind_some, Option.map_some, evalOp, readCells, readCell, List.getElem?_cons_zero, List.getElem?_cons_succ, List.length_cons, Nat.zero_add, Nat.reduceAdd, List.drop_zero, List.drop_succ_cons, ↓reduceIte, evalRs, evalR, AV.toV0?, mkRes, V0.toAV, lst_get, eq_self, finish_id, Bool.true_and, List.map_cons, List.map_nil, List.append_nil, evC_drawn, dr_nil, dr_cons, chk_nil, hi, hj, h1, h2, h3, gl, gt, r120, r122, Bool.true_and, Nat.le_refl]
end Go.Proofs.Ytnblibimbggheaa
