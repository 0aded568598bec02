/- What functions of the program answer: part Pairs. -/
import Derived.Test.YtnblibimbggheaaCopies
import Derived.Test.YtnblibimbggheaaViE
set_option linter.unusedVariables false
set_option linter.unusedSimpArgs false
set_option linter.unusedSectionVars false
namespace Go.Proofs.Ytnblibimbggheaa
open Go Go.Proofs.Ytnblibimbggheaa.VI
set_option maxHeartbeats 16000000
set_option maxRecDepth 20000
/-! Whether wood is in wood -/
def inWl (w v : List Int) : Bool := (((vandNot .u64 (w.getD 0 0) (v.getD 0 0) == 0) && (vandNot .u64 (w.getD 1 0) (v.getD 1 0) == 0)) && (vandNot .u64 (w.getD 2 0) (v.getD 2 0) == 0)) && (vandNot .u64 (w.getD 3 0) (v.getD 3 0) == 0)
theorem bne_ite {α : Type} {x y : Int} {p q : α} : (if (x != y) = true then p else q) = if x = y then q else p := by
  by_cases h : x = y <;> simp [h]
theorem run112 {w v : List Int} (hw : w.length = 4) (hv : v.length = 4) (H : AHeap) : ev kk 112 [.agg (wrow w), .agg (wrow v)] H = some (.c (.bool (inWl w v)), H) := by
  match w, hw, v, hv with
  | [a, b, c, d], _, [a', b', c', d'], _ =>
    have e : inWl [a, b, c, d] [a', b', c', d'] = ((((vandNot .u64 a a' == 0) && (vandNot .u64 b b' == 0)) && (vandNot .u64 c c' == 0)) && (vandNot .u64 d d' == 0)) := rfl
    rw [e, ev_call c112]; unfold k112; rw [evB_eq rfl]
    by_cases h1 : vandNot .u64 a a' = 0
    · by_cases h2 : vandNot .u64 b b' = 0
      · by_cases h3 : vandNot .u64 c c' = 0
        · by_cases h4 : vandNot .u64 d d' = 0
          · simp only [evC_skip, evC_exit, evC_ret, evC_region, evC_seq, evC_block, ev_t, ev_k, putS_some, upd_l, ops_nil, evC_condC, cond_bool, evC_loop, ops_cons, next_some, nextD_some, then_norm, then_exit, out_norm, out_exit, done_ret, putL, getL, Option.bind_some, Option.map_some, evalOp, AV.cells?, readCell, get_app, get_app0, len_app, List.getElem?_cons_zero, List.getElem?_cons_succ, Option.join_some, List.length_cons, List.length_nil, List.append_assoc, List.cons_append, List.nil_append, Nat.zero_add, Nat.add_zero, Nat.reduceMul, ↓reduceIte, reduceCtorEq, binA, binC, intBin, or_false, or_true, Int.reduceLT, Int.reduceLE, Int.reduceToNat, Int.reduceAdd, evalRs, evalR, AV.toV0?, mkRes, V0.toAV, decide_true, decide_false, and_self, lst_get, Int.cast_ofNat_Int, eq_self, IntWalk.i64_in, Int.reduceNeg, finish_app, pl_bool, plA_c, Bool.and_true, beq_self_eq_true, Bool.false_eq_true, List.map_cons, List.map_nil, bne_self_eq_false, evC_drawn, dr_nil, dr_cons, chk_nil, Int.zero_add, l112_0, h1, h2, h3, h4]
          · have h4' : (vandNot .u64 d d' == 0) = false := by simpa using h4
            simp only [evC_skip, evC_ret, evC_region, evC_seq, evC_block, ev_t, ev_k, putS_some, upd_l, ops_nil, evC_condC, cond_bool, evC_loop, ops_cons, next_some, nextD_some, then_norm, then_ret, out_norm, out_ret, done_ret, putL, getL, Option.bind_some, Option.map_some, evalOp, AV.cells?, readCell, get_app, get_app0, len_app, List.getElem?_cons_zero, List.getElem?_cons_succ, Option.join_some, List.length_cons, List.length_nil, List.append_assoc, List.cons_append, List.nil_append, Nat.zero_add, Nat.add_zero, Nat.reduceMul, ↓reduceIte, reduceCtorEq, binA, binC, intBin, or_false, or_true, Int.reduceLT, Int.reduceLE, Int.reduceToNat, Int.reduceAdd, evalRs, evalR, AV.toV0?, mkRes, V0.toAV, decide_true, and_self, lst_get, Int.cast_ofNat_Int, eq_self, IntWalk.i64_in, Int.reduceNeg, finish_app, pl_bool, plA_c, Bool.and_true, beq_self_eq_true, Bool.false_eq_true, List.map_cons, List.map_nil, bne_self_eq_false, evC_drawn, dr_nil, dr_cons, chk_nil, Int.zero_add, l112_0, bne_ite, h1, h2, h3, h4, h4', Bool.and_false]
        · have h3' : (vandNot .u64 c c' == 0) = false := by simpa using h3
          simp only [evC_skip, evC_ret, evC_region, evC_seq, evC_block, ev_t, ev_k, putS_some, upd_l, ops_nil, evC_condC, cond_bool, evC_loop, ops_cons, next_some, nextD_some, then_norm, then_ret, out_norm, out_ret, done_ret, putL, getL, Option.bind_some, Option.map_some, evalOp, AV.cells?, readCell, get_app, get_app0, len_app, List.getElem?_cons_zero, List.getElem?_cons_succ, Option.join_some, List.length_cons, List.length_nil, List.append_assoc, List.cons_append, List.nil_append, Nat.zero_add, Nat.add_zero, Nat.reduceMul, ↓reduceIte, reduceCtorEq, binA, binC, intBin, or_false, or_true, Int.reduceLT, Int.reduceLE, Int.reduceToNat, Int.reduceAdd, evalRs, evalR, AV.toV0?, mkRes, V0.toAV, decide_true, and_self, lst_get, Int.cast_ofNat_Int, eq_self, IntWalk.i64_in, Int.reduceNeg, finish_app, pl_bool, plA_c, Bool.and_true, beq_self_eq_true, Bool.false_eq_true, List.map_cons, List.map_nil, bne_self_eq_false, evC_drawn, dr_nil, dr_cons, chk_nil, Int.zero_add, l112_0, bne_ite, h1, h2, h3, h3', Bool.and_false, Bool.false_and]
      · have h2' : (vandNot .u64 b b' == 0) = false := by simpa using h2
        simp only [evC_skip, evC_ret, evC_region, evC_seq, evC_block, ev_t, ev_k, putS_some, upd_l, ops_nil, evC_condC, cond_bool, evC_loop, ops_cons, next_some, nextD_some, then_norm, then_ret, out_norm, out_ret, done_ret, putL, getL, Option.bind_some, Option.map_some, evalOp, AV.cells?, readCell, get_app, get_app0, len_app, List.getElem?_cons_zero, List.getElem?_cons_succ, Option.join_some, List.length_cons, List.length_nil, List.append_assoc, List.cons_append, List.nil_append, Nat.zero_add, Nat.add_zero, Nat.reduceMul, ↓reduceIte, reduceCtorEq, binA, binC, intBin, or_false, or_true, Int.reduceLT, Int.reduceLE, Int.reduceToNat, evalRs, evalR, AV.toV0?, mkRes, V0.toAV, decide_true, and_self, lst_get, Int.cast_ofNat_Int, eq_self, IntWalk.i64_in, Int.reduceNeg, finish_app, pl_bool, plA_c, beq_self_eq_true, Bool.false_eq_true, List.map_cons, List.map_nil, bne_self_eq_false, evC_drawn, dr_nil, dr_cons, chk_nil, Int.zero_add, l112_0, bne_ite, h1, h2, h2', Bool.and_false, Bool.false_and]
    · have h1' : (vandNot .u64 a a' == 0) = false := by simpa using h1
      simp only [evC_skip, evC_ret, evC_region, evC_seq, evC_block, ev_t, ev_k, putS_some, upd_l, ops_nil, evC_condC, cond_bool, evC_loop, ops_cons, next_some, nextD_some, then_norm, then_ret, out_ret, done_ret, putL, getL, Option.bind_some, Option.map_some, evalOp, AV.cells?, readCell, get_app, get_app0, len_app, List.getElem?_cons_zero, List.getElem?_cons_succ, Option.join_some, List.length_cons, List.length_nil, List.append_assoc, List.cons_append, List.nil_append, Nat.zero_add, Nat.add_zero, Nat.reduceMul, ↓reduceIte, reduceCtorEq, binA, binC, intBin, or_false, or_true, Int.reduceLT, Int.reduceLE, Int.reduceToNat, evalRs, evalR, AV.toV0?, mkRes, V0.toAV, decide_true, and_self, lst_get, Int.cast_ofNat_Int, eq_self, finish_app, pl_bool, plA_c, List.map_cons, List.map_nil, evC_drawn, dr_nil, dr_cons, chk_nil, l112_0, bne_ite, h1, h1', Bool.false_and]
theorem run106 {w v : List Int} (hw : w.length = 4) (hv : v.length = 4) (H : AHeap) : ev kk 106 [.agg (wrow w), .agg (wrow v)] H = some (.c (.bool (inWl w v)), H) := by
  match w, hw, v, hv with
  | [a, b, c, d], _, [a', b', c', d'], _ =>
    have e : inWl [a, b, c, d] [a', b', c', d'] = ((((vandNot .u64 a a' == 0) && (vandNot .u64 b b' == 0)) && (vandNot .u64 c c' == 0)) && (vandNot .u64 d d' == 0)) := rfl
    rw [e, ev_call c106]; unfold k106; rw [evB_eq rfl]
    by_cases h1 : vandNot .u64 a a' = 0
    · by_cases h2 : vandNot .u64 b b' = 0
      · by_cases h3 : vandNot .u64 c c' = 0
        · by_cases h4 : vandNot .u64 d d' = 0
          · simp only [evC_skip, evC_exit, evC_ret, evC_region, evC_seq, evC_block, ev_t, ev_k, putS_some, upd_l, ops_nil, evC_condC, cond_bool, evC_loop, ops_cons, next_some, nextD_some, then_norm, then_exit, out_norm, out_exit, done_ret, putL, getL, Option.bind_some, Option.map_some, evalOp, AV.cells?, readCell, get_app, get_app0, len_app, List.getElem?_cons_zero, List.getElem?_cons_succ, Option.join_some, List.length_cons, List.length_nil, List.append_assoc, List.cons_append, List.nil_append, Nat.zero_add, Nat.add_zero, Nat.reduceMul, ↓reduceIte, reduceCtorEq, binA, binC, intBin, or_false, or_true, Int.reduceLT, Int.reduceLE, Int.reduceToNat, Int.reduceAdd, evalRs, evalR, AV.toV0?, mkRes, V0.toAV, decide_true, decide_false, and_self, lst_get, Int.cast_ofNat_Int, eq_self, IntWalk.i64_in, Int.reduceNeg, finish_app, pl_bool, plA_c, Bool.and_true, beq_self_eq_true, Bool.false_eq_true, List.map_cons, List.map_nil, bne_self_eq_false, evC_drawn, dr_nil, dr_cons, chk_nil, Int.zero_add, l106_0, h1, h2, h3, h4]
          · have h4' : (vandNot .u64 d d' == 0) = false := by simpa using h4
            simp only [evC_skip, evC_ret, evC_region, evC_seq, evC_block, ev_t, ev_k, putS_some, upd_l, ops_nil, evC_condC, cond_bool, evC_loop, ops_cons, next_some, nextD_some, then_norm, then_ret, out_norm, out_ret, done_ret, putL, getL, Option.bind_some, Option.map_some, evalOp, AV.cells?, readCell, get_app, get_app0, len_app, List.getElem?_cons_zero, List.getElem?_cons_succ, Option.join_some, List.length_cons, List.length_nil, List.append_assoc, List.cons_append, List.nil_append, Nat.zero_add, Nat.add_zero, Nat.reduceMul, ↓reduceIte, reduceCtorEq, binA, binC, intBin, or_false, or_true, Int.reduceLT, Int.reduceLE, Int.reduceToNat, Int.reduceAdd, evalRs, evalR, AV.toV0?, mkRes, V0.toAV, decide_true, and_self, lst_get, Int.cast_ofNat_Int, eq_self, IntWalk.i64_in, Int.reduceNeg, finish_app, pl_bool, plA_c, Bool.and_true, beq_self_eq_true, Bool.false_eq_true, List.map_cons, List.map_nil, bne_self_eq_false, evC_drawn, dr_nil, dr_cons, chk_nil, Int.zero_add, l106_0, bne_ite, h1, h2, h3, h4, h4', Bool.and_false]
        · have h3' : (vandNot .u64 c c' == 0) = false := by simpa using h3
          simp only [evC_skip, evC_ret, evC_region, evC_seq, evC_block, ev_t, ev_k, putS_some, upd_l, ops_nil, evC_condC, cond_bool, evC_loop, ops_cons, next_some, nextD_some, then_norm, then_ret, out_norm, out_ret, done_ret, putL, getL, Option.bind_some, Option.map_some, evalOp, AV.cells?, readCell, get_app, get_app0, len_app, List.getElem?_cons_zero, List.getElem?_cons_succ, Option.join_some, List.length_cons, List.length_nil, List.append_assoc, List.cons_append, List.nil_append, Nat.zero_add, Nat.add_zero, Nat.reduceMul, ↓reduceIte, reduceCtorEq, binA, binC, intBin, or_false, or_true, Int.reduceLT, Int.reduceLE, Int.reduceToNat, Int.reduceAdd, evalRs, evalR, AV.toV0?, mkRes, V0.toAV, decide_true, and_self, lst_get, Int.cast_ofNat_Int, eq_self, IntWalk.i64_in, Int.reduceNeg, finish_app, pl_bool, plA_c, Bool.and_true, beq_self_eq_true, Bool.false_eq_true, List.map_cons, List.map_nil, bne_self_eq_false, evC_drawn, dr_nil, dr_cons, chk_nil, Int.zero_add, l106_0, bne_ite, h1, h2, h3, h3', Bool.and_false, Bool.false_and]
      · have h2' : (vandNot .u64 b b' == 0) = false := by simpa using h2
        simp only [evC_skip, evC_ret, evC_region, evC_seq, evC_block, ev_t, ev_k, putS_some, upd_l, ops_nil, evC_condC, cond_bool, evC_loop, ops_cons, next_some, nextD_some, then_norm, then_ret, out_norm, out_ret, done_ret, putL, getL, Option.bind_some, Option.map_some, evalOp, AV.cells?, readCell, get_app, get_app0, len_app, List.getElem?_cons_zero, List.getElem?_cons_succ, Option.join_some, List.length_cons, List.length_nil, List.append_assoc, List.cons_append, List.nil_append, Nat.zero_add, Nat.add_zero, Nat.reduceMul, ↓reduceIte, reduceCtorEq, binA, binC, intBin, or_false, or_true, Int.reduceLT, Int.reduceLE, Int.reduceToNat, evalRs, evalR, AV.toV0?, mkRes, V0.toAV, decide_true, and_self, lst_get, Int.cast_ofNat_Int, eq_self, IntWalk.i64_in, Int.reduceNeg, finish_app, pl_bool, plA_c, beq_self_eq_true, Bool.false_eq_true, List.map_cons, List.map_nil, bne_self_eq_false, evC_drawn, dr_nil, dr_cons, chk_nil, Int.zero_add, l106_0, bne_ite, h1, h2, h2', Bool.and_false, Bool.false_and]
    · have h1' : (vandNot .u64 a a' == 0) = false := by simpa using h1
      simp only [evC_skip, evC_ret, evC_region, evC_seq, evC_block, ev_t, ev_k, putS_some, upd_l, ops_nil, evC_condC, cond_bool, evC_loop, ops_cons, next_some, nextD_some, then_norm, then_ret, out_ret, done_ret, putL, getL, Option.bind_some, Option.map_some, evalOp, AV.cells?, readCell, get_app, get_app0, len_app, List.getElem?_cons_zero, List.getElem?_cons_succ, Option.join_some, List.length_cons, List.length_nil, List.append_assoc, List.cons_append, List.nil_append, Nat.zero_add, Nat.add_zero, Nat.reduceMul, ↓reduceIte, reduceCtorEq, binA, binC, intBin, or_false, or_true, Int.reduceLT, Int.reduceLE, Int.reduceToNat, evalRs, evalR, AV.toV0?, mkRes, V0.toAV, decide_true, and_self, lst_get, Int.cast_ofNat_Int, eq_self, finish_app, pl_bool, plA_c, List.map_cons, List.map_nil, evC_drawn, dr_nil, dr_cons, chk_nil, l106_0, bne_ite, h1, h1', Bool.false_and]
/-! Halves -/
structure Hf where
  st : Bool
  p : Option (Nat × Nat)
  cap : Cap
  xs : List Nt
  g : List Int
  g16 : g.length = 16
abbrev hfr (h : Hf) : List CV := hrow h.st h.p h.xs.length h.cap h.g
def okF (h : Hf) : Bool := okH h.xs h.g
/-- Such a half may be read. -/
structure HfAt (H : AHeap) (h : Hf) : Prop where
  few : h.xs.length ≤ 4398046511104
  rng : ∀ x ∈ h.xs, rngN x
  at_ : Nts H h.p h.xs
theorem HfAt.app {H : AHeap} {h : Hf} (q : HfAt H h) (t : List (Option Blk)) : HfAt (H ++ t) h := ⟨q.few, q.rng, q.at_.app t⟩
abbrev hfb (h : Hf) : Option Blk := some ⟨36, hfr h, .own⟩
theorem v70 {H : AHeap} {h : Hf} (q : HfAt H h) : ev kk 59 [.agg (hfr h)] H = some (.c (.bool (okF h)), H) := run59 h.g16 q.few q.rng q.at_
theorem v66 {H : AHeap} {h : Hf} (q : HfAt H h) {j : Nat} {e : TypeId} {m : BM} (hj : H.get j = some ⟨e, hfr h, m⟩) : ev kk 57 [.c (.ptr (some (j, 0)))] H = some (.c (.bool (okF h)), H) := run57 h.g16 q.few q.rng q.at_ hj
def wdF (h : Hf) : List Int := wdL h.xs [0, 0, 0, 0]
theorem wdF_len {h : Hf} : (wdF h).length = 4 := wdL_len _ _
theorem v71 {H : AHeap} {h : Hf} (q : HfAt H h) (ho : okF h = true) : ev kk 104 [.agg (hfr h)] H = some (.agg (wrow (wdF h)), H) := run104 h.g16 q.few q.rng (okH_p ho).2.1 q.at_
theorem v67 {H : AHeap} {h : Hf} (q : HfAt H h) (ho : okF h = true) {j : Nat} {e : TypeId} {m : BM} (hj : H.get j = some ⟨e, hfr h, m⟩) : ev kk 111 [.c (.ptr (some (j, 0)))] H = some (.agg (wrow (wdF h)), H) := run111 q.few q.rng (okH_p ho).2.1 q.at_ hj
theorem hfr_len (h : Hf) : (hfr h).length = 18 := by
  have : (grow h.g).length = 16 := by rw [List.length_map]; exact h.g16
  simp only [hfr, hrow, List.length_cons, this]
theorem gl {h : Hf} : (grow h.g).length = 16 := by rw [List.length_map]; exact h.g16
theorem gt {h : Hf} : List.take 16 (grow h.g) = grow h.g := List.take_of_length_le (by rw [gl]; omega)
section
variable {x y : Hf} {H : AHeap}
end
end Go.Proofs.Ytnblibimbggheaa
