/- What functions of the program answer: part Inspect. -/
import Derived.Test.YtnblibimbggheaaMarks
import Derived.Test.YtnblibimbggheaaSums
set_option linter.unusedVariables false
set_option linter.unusedSimpArgs false
set_option linter.unusedSectionVars false
namespace Go.Proofs.Ytnblibimbggheaa
open Go Go.Proofs.Ytnblibimbggheaa.VI
set_option maxHeartbeats 16000000
set_option maxRecDepth 20000
/-! Marks on notches -/
theorem nrows_valid {n : Nat} {xs : List Nt} : (nrows xs).all (CV.validIn n) = true := by
  induction xs with
  | nil => rfl
  | cons x xs ih => simp only [nrows, nrow, List.map_cons, List.flatten_cons, List.cons_append, List.nil_append, List.all_cons, vi_int, Bool.true_and] at ih ⊢; exact ih
theorem nset1 {xs : List Nt} {i : Nat} {v : Int} (hi : i < xs.length) : List.take (i * 2) (nrows xs) ++ CV.int .i8 v :: List.drop (i * 2 + 1) (nrows xs) = nrows (xs.set i ⟨v, (xs[i]'hi).a⟩) := by
  induction xs generalizing i with
  | nil => simp at hi
  | cons y ys ih =>
    cases i with
    | zero => simp [nrows]
    | succ i =>
      have := ih (i := i) (by simpa using hi)
      have e : (i + 1) * 2 = i * 2 + 1 + 1 := by omega
      simp only [nrows, nrow, List.map_cons, List.flatten_cons, List.cons_append, List.nil_append, e, List.take_succ_cons, List.drop_succ_cons, List.set_cons_succ, List.getElem_cons_succ] at this ⊢
      rw [this]
theorem nset2 {xs : List Nt} {i : Nat} {v : Int} (hi : i < xs.length) : List.take (i * 2 + 1) (nrows xs) ++ CV.int .i16 v :: List.drop (i * 2 + 1 + 1) (nrows xs) = nrows (xs.set i ⟨(xs[i]'hi).k, v⟩) := by
  induction xs generalizing i with
  | nil => simp at hi
  | cons y ys ih =>
    cases i with
    | zero => simp [nrows]
    | succ i =>
      have := ih (i := i) (by simpa using hi)
      have e : (i + 1) * 2 = i * 2 + 1 + 1 := by omega
      simp only [nrows, nrow, List.map_cons, List.flatten_cons, List.cons_append, List.nil_append, e, List.take_succ_cons, List.drop_succ_cons, List.set_cons_succ, List.getElem_cons_succ] at this ⊢
      rw [this]
theorem run61z {p : Option (Nat × Nat)} {cap : Cap} {k : Int} {H : AHeap} : ev kk 61 [.c (.slice p 0 cap), .c (.int .i64 k)] H = some (.c (.int .i64 k), H) := by
  rw [ev_call c61]; unfold k61; rw [evB_eq rfl]
  simp (maxSteps := 4000000) (disch := first | omega | (refine _root_.id ?_; simp only [pl_int, pl_bool, pl_str, pl_undef, pl_nil, pl_ptr, plA_c, plA_agg, plA_tup, plV_c, plV_agg, List.all_cons, List.all_nil, Bool.and_true, Bool.and_self, eq_self, vi_int, vi_bool, get_app, get_app0, List.getElem?_cons_zero, List.getElem?_cons_succ, Option.join_some, lst_get, getL, upd_at, upd_ne, Nat.reduceBEq])) only [evC_skip, evC_exit, evC_ret, evC_region, evC_seq, evC_block, ev_t, ev_k, putS_some, upd_l, putS_none, ops_nil, ops_pick, pick_bool, ops_consg, guard_bool, evC_condC, cond_bool, evC_loop, ops_cons, next_some, next_none, next_ite, nextD_some, nextD_none, nextD_ite, bind_ite, map_ite, then_ite, then_norm, then_ret, then_exit, out_ite, out_norm, out_ret, out_exit, done_ite, done_norm, done_ret, putL, getL, Option.bind_some, Option.map_some, Option.bind_none, Option.map_none, evalOp, AV.cells?, readCells, readCell, writeCells, get_app, get_app0, set_app, set_app0, len_app, List.getElem?_cons_zero, List.getElem?_cons_succ, Option.join_some, List.length_cons, List.length_nil, List.append_assoc, List.cons_append, List.nil_append, Nat.zero_add, Nat.add_zero, Nat.reduceAdd, Nat.reduceLeDiff, Nat.reduceLT, Nat.reduceMul, Nat.reduceSub, List.drop_zero, List.drop_succ_cons, List.take_zero, List.take_succ_cons, List.take_nil, List.drop_nil, if_true, if_false, ite_true, ite_false, ite_self, ↓reduceIte, reduceCtorEq, binA, binC, intBin, or_false, false_or, or_true, true_or, and_true, true_and, Int.reduceLT, Int.reduceLE, Int.reduceToNat, Int.reduceAdd, evalRs, evalR, AV.toV0?, mkRes, V0.toAV, decide_true, decide_false, and_self, Nat.reduceEqDiff, lst_get, Int.cast_ofNat_Int, eq_self, IntWalk.i64_in, IntWalk.i16_in, IntWalk.i32_in, IntWalk.i8_in, IntWalk.u8_in, Int.reduceNeg, finish_app, finish_id, pl_int, pl_bool, pl_str, pl_undef, pl_nil, pl_ptr, plA_c, plA_agg, plA_tup, plV_c, plV_agg, List.all_cons, List.all_nil, Bool.and_true, Bool.true_and, decide_eq_true_eq, decide_eq_false_iff_not, beq_self_eq_true, Bool.not_true, Bool.not_false, Bool.true_eq_false, Bool.false_eq_true, List.map_cons, List.map_nil, List.append_nil, setAt, CV.ok, eqRes, bne_self_eq_false, List.set_cons_zero, List.set_cons_succ, evC_drawn, dr_nil, dr_cons, chk_nil, chk_cons, re_same, unA, Bool.not_eq_true', Bool.not_eq_eq_eq_not, Bool.not_not, Int.zero_add, List.getElem?_nil, partsA, fillC, Int.reduceEq, Int.reduceMul, Int.reduceSub, Int.reduceTDiv, Int.reduceTMod, List.flatten_cons, List.flatten_nil, finish_no, tdiv_pos, tmod_pos, Int.reduceDiv, Int.reduceMod, len_add, vi_int, vi_bool, Int.reduceBNe, Int.reduceBEq, Nat.reduceBEq, Nat.reduceBNe, l61_0, Int.natCast_zero]
/-! Verdicts -/
section
variable {f : Bool} {l a o : Int} {K K' T T' U U' J : List (Option Blk)} {xs : List Int} {c c' : CV}
end
end Go.Proofs.Ytnblibimbggheaa
