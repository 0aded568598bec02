/- What functions of the program answer: part Inspect. -/
import Derived.Test.YtnblibimbggheaaMarks
import Derived.Test.YtnblibimbggheaaSums
set_option linter.unusedVariables false
set_option linter.unusedSimpArgs false
set_option linter.unusedSectionVars false
namespace Go.Proofs.Ytnblibimbggheaa
open Go Go.Proofs.Ytnblibimbggheaa.VI
set_option maxHeartbeats 16000000
set_option maxRecDepth 20000
/-! Marks on notches -/
theorem nrows_valid {n : Nat} {xs : List Nt} : (nrows xs).all (CV.validIn n) = true := by
  induction xs with
  | nil => rfl
  | cons x xs ih => simp only [nrows, nrow, List.map_cons, List.flatten_cons, List.cons_append, List.nil_append, List.all_cons, vi_int, Bool.true_and] at ih ⊢; exact ih
theorem nset1 {xs : List Nt} {i : Nat} {v : Int} (hi : i < xs.length) : List.take (i * 2) (nrows xs) ++ CV.int .i8 v :: List.drop (i * 2 + 1) (nrows xs) = nrows (xs.set i ⟨v, (xs[i]'hi).a⟩) := by
  induction xs generalizing i with
  | nil => simp at hi
  | cons y ys ih =>
    cases i with
    | zero => simp [nrows]
    | succ i =>
      have := ih (i := i) (by simpa using hi)
      have e : (i + 1) * 2 = i * 2 + 1 + 1 := by omega
      simp only [nrows, nrow, List.map_cons, List.flatten_cons, List.cons_append, List.nil_append, e, List.take_succ_cons, List.drop_succ_cons, List.set_cons_succ, List.getElem_cons_succ] at this ⊢
      rw [this]
theorem nset2 {xs : List Nt} {i : Nat} {v : Int} (hi : i < xs.length) : List.take (i * 2 + 1) (nrows xs) ++ CV.int .i16 v :: List.drop (i * 2 + 1 + 1) (nrows xs) = nrows (xs.set i ⟨(xs[i]'hi).k, v⟩) := by
  induction xs generalizing i with
  | nil => simp at hi
  | cons y ys ih =>
    cases i with
    | zero => simp [nrows]
    | succ i =>
      have := ih (i := i) (by simpa using hi)
      have e : (i + 1) * 2 = i * 2 + 1 + 1 := by omega
      simp only [nrows, nrow, List.map_cons, List.flatten_cons, List.cons_append, List.nil_append, e, List.take_succ_cons, List.drop_succ_cons, List.set_cons_succ, List.getElem_cons_succ] at this ⊢
      rw [this]
theorem run61z {p : Option (Nat × Nat)} {cap : Cap} {k : Int} {H : AHeap} : ev kk 61 [.c (.slice p 0 cap), .c (.int .i64 k)] H = some (.c (.int .i64 k), H) := by
  rw [ev_call c61]; unfold k61; rw [evB_eq rfl]
  simp (maxSteps := 4000000) (disch := first | omega | (refine _root_.id ?_; simp only [pl_int, pl_bool, pl_str, pl_undef, pl_nil, pl_ptr, plA_c, plA_agg, plA_tup, plV_c, plV_agg, List.all_cons, List.all_nil, Bool.and_true, Bool.and_self, eq_self, vi_int, vi_bool, get_app, get_app0, List.getElem?_cons_zero, List.getElem?_cons_succ, Option.join_some, lst_get, getL, upd_at, upd_ne, Nat.reduceBEq])) only [evC_exit, evC_ret, evC_region, evC_seq, evC_block, ev_t, ev_k, putS_some, upd_l, ops_nil, evC_condC, cond_bool, evC_loop, ops_cons, next_some, then_norm, then_exit, out_exit, done_ret, putL, getL, Option.bind_some, Option.map_some, evalOp, ↓reduceIte, reduceCtorEq, binA, binC, intBin, or_false, or_true, Int.reduceLT, evalRs, evalR, AV.toV0?, mkRes, V0.toAV, decide_false, lst_get, Int.cast_ofNat_Int, eq_self, finish_id, Bool.false_eq_true, l61_0]
/-! Verdicts -/
section
variable {f : Bool} {l a o : Int} {K K' T T' U U' J : List (Option Blk)} {xs : List Int} {c c' : CV}
end
end Go.Proofs.Ytnblibimbggheaa
