/- What functions of the program answer: part FaultLaw. -/
import Derived.Test.YtebdajfangbdpaaFault4
import Derived.Test.YtebdajfangbdpaaLk
set_option linter.unusedVariables false
set_option linter.unusedSimpArgs false
set_option linter.unusedSectionVars false
namespace Go.Proofs.Ytebdajfangbdpaa
open Go Go.Proofs.Ytebdajfangbdpaa.VI
set_option maxHeartbeats 16000000
set_option maxRecDepth 20000
theorem run36 {p : Option (Nat × Nat)} {cap : Cap} {rs : List Ac} {o l : Int} (hlen : rs.length ≤ 1152921504606846976) (hl : 0 ≤ l ∧ l ≤ 4398046511104) {H : AHeap} (hp : Acs H p rs) (ha : ∀ a ∈ rs, AcIn H a) : ∃ r, ev kk 36 [.agg (rollC p rs.length cap o), .c (.int .i64 l)] H = some (.c (.int .i64 r), H) ∧ (¬ r < 0 → (rs.length : Int) ≤ l ∧ ∀ a ∈ rs, (a.t.size : Int) ≤ l ∧ (a.xs.length : Int) ≤ l) := by
  obtain ⟨r, e, q⟩ := run58 (cap := cap) hlen hl (hp.app [some ⟨58, rollC p rs.length cap o, .own⟩]) (fun a h => ⟨(ha a h).str, (ha a h).few, (ha a h).rng, (ha a h).its.app _⟩)
  by_cases hr : r < 0
  · refine ⟨-1, ?_, fun h => by omega⟩
    rw [ev_call c36]; unfold k36; rw [evB_eq rfl]
    simp (maxSteps := 4000000) (disch := first | omega | (refine _root_.id ?_; simp only [pl_int, pl_bool, pl_str, pl_undef, pl_nil, pl_ptr, plA_c, plA_agg, plA_tup, plV_c, plV_agg, List.all_cons, List.all_nil, Bool.and_true, Bool.and_self, eq_self, vi_int, vi_bool, get_app, get_app0, List.getElem?_cons_zero, List.getElem?_cons_succ, Option.join_some, lst_get, getL, upd_at, upd_ne, Nat.reduceBEq])) only [evC_skip, evC_exit, evC_ret, evC_region, evC_seq, evC_block, ev_t, ev_k, putS_some, upd_l, putS_none, ops_nil, ops_pick, pick_bool, ops_consg, guard_bool, evC_condC, cond_bool, ops_cons, next_some, next_none, next_ite, nextD_some, nextD_none, nextD_ite, bind_ite, map_ite, then_ite, then_norm, then_ret, then_exit, out_ite, out_norm, out_ret, out_exit, done_ite, done_norm, done_ret, putL, getL, Option.bind_some, Option.map_some, Option.bind_none, Option.map_none, evalOp, AV.cells?, readCells, readCell, writeCells, get_app, get_app0, set_app, set_app0, len_app, List.getElem?_cons_zero, List.getElem?_cons_succ, Option.join_some, List.length_cons, List.length_nil, List.append_assoc, List.cons_append, List.nil_append, Nat.zero_add, Nat.add_zero, Nat.reduceAdd, Nat.reduceLeDiff, Nat.reduceLT, Nat.reduceMul, Nat.reduceSub, List.drop_zero, List.drop_succ_cons, List.take_zero, List.take_succ_cons, List.take_nil, List.drop_nil, if_true, if_false, ite_true, ite_false, ite_self, ↓reduceIte, reduceCtorEq, binA, binC, intBin, or_false, false_or, or_true, true_or, and_true, true_and, Int.reduceLT, Int.reduceLE, Int.reduceToNat, Int.reduceAdd, evalRs, evalR, AV.toV0?, mkRes, V0.toAV, decide_true, decide_false, and_self, Nat.reduceEqDiff, lst_get, Int.cast_ofNat_Int, eq_self, IntWalk.i64_in, IntWalk.i16_in, IntWalk.i32_in, IntWalk.i8_in, IntWalk.u8_in, Int.reduceNeg, finish_app, finish_id, pl_int, pl_bool, pl_str, pl_undef, pl_nil, pl_ptr, plA_c, plA_agg, plA_tup, plV_c, plV_agg, List.all_cons, List.all_nil, Bool.and_true, Bool.true_and, decide_eq_true_eq, decide_eq_false_iff_not, beq_self_eq_true, Bool.not_true, Bool.not_false, Bool.true_eq_false, Bool.false_eq_true, List.map_cons, List.map_nil, List.append_nil, setAt, CV.ok, eqRes, bne_self_eq_false, List.set_cons_zero, List.set_cons_succ, evC_drawn, dr_nil, dr_cons, chk_nil, chk_cons, re_same, unA, Bool.not_eq_true', Bool.not_eq_eq_eq_not, Bool.not_not, Int.zero_add, List.getElem?_nil, partsA, fillC, Int.reduceEq, Int.reduceMul, Int.reduceSub, Int.reduceTDiv, Int.reduceTMod, List.flatten_cons, List.flatten_nil, finish_no, tdiv_pos, tmod_pos, Int.reduceDiv, Int.reduceMod, len_add, vi_int, vi_bool, Int.reduceBNe, Int.reduceBEq, Nat.reduceBEq, Nat.reduceBNe, post_some, post_ite, ite_ex, upd_at, upd_ne, cast_nonneg, cast_toNat, Nat.mul_one, false_implies, true_implies, implies_true, chkg_bool, chk_consg, guard_undef, e, hr]
  · refine ⟨r, ?_, fun _ => q hr⟩
    rw [ev_call c36]; unfold k36; rw [evB_eq rfl]
    simp (maxSteps := 4000000) (disch := first | omega | (refine _root_.id ?_; simp only [pl_int, pl_bool, pl_str, pl_undef, pl_nil, pl_ptr, plA_c, plA_agg, plA_tup, plV_c, plV_agg, List.all_cons, List.all_nil, Bool.and_true, Bool.and_self, eq_self, vi_int, vi_bool, get_app, get_app0, List.getElem?_cons_zero, List.getElem?_cons_succ, Option.join_some, lst_get, getL, upd_at, upd_ne, Nat.reduceBEq])) only [evC_skip, evC_exit, evC_ret, evC_region, evC_seq, evC_block, ev_t, ev_k, putS_some, upd_l, putS_none, ops_nil, ops_pick, pick_bool, ops_consg, guard_bool, evC_condC, cond_bool, ops_cons, next_some, next_none, next_ite, nextD_some, nextD_none, nextD_ite, bind_ite, map_ite, then_ite, then_norm, then_ret, then_exit, out_ite, out_norm, out_ret, out_exit, done_ite, done_norm, done_ret, putL, getL, Option.bind_some, Option.map_some, Option.bind_none, Option.map_none, evalOp, AV.cells?, readCells, readCell, writeCells, get_app, get_app0, set_app, set_app0, len_app, List.getElem?_cons_zero, List.getElem?_cons_succ, Option.join_some, List.length_cons, List.length_nil, List.append_assoc, List.cons_append, List.nil_append, Nat.zero_add, Nat.add_zero, Nat.reduceAdd, Nat.reduceLeDiff, Nat.reduceLT, Nat.reduceMul, Nat.reduceSub, List.drop_zero, List.drop_succ_cons, List.take_zero, List.take_succ_cons, List.take_nil, List.drop_nil, if_true, if_false, ite_true, ite_false, ite_self, ↓reduceIte, reduceCtorEq, binA, binC, intBin, or_false, false_or, or_true, true_or, and_true, true_and, Int.reduceLT, Int.reduceLE, Int.reduceToNat, Int.reduceAdd, evalRs, evalR, AV.toV0?, mkRes, V0.toAV, decide_true, decide_false, and_self, Nat.reduceEqDiff, lst_get, Int.cast_ofNat_Int, eq_self, IntWalk.i64_in, IntWalk.i16_in, IntWalk.i32_in, IntWalk.i8_in, IntWalk.u8_in, Int.reduceNeg, finish_app, finish_id, pl_int, pl_bool, pl_str, pl_undef, pl_nil, pl_ptr, plA_c, plA_agg, plA_tup, plV_c, plV_agg, List.all_cons, List.all_nil, Bool.and_true, Bool.true_and, decide_eq_true_eq, decide_eq_false_iff_not, beq_self_eq_true, Bool.not_true, Bool.not_false, Bool.true_eq_false, Bool.false_eq_true, List.map_cons, List.map_nil, List.append_nil, setAt, CV.ok, eqRes, bne_self_eq_false, List.set_cons_zero, List.set_cons_succ, evC_drawn, dr_nil, dr_cons, chk_nil, chk_cons, re_same, unA, Bool.not_eq_true', Bool.not_eq_eq_eq_not, Bool.not_not, Int.zero_add, List.getElem?_nil, partsA, fillC, Int.reduceEq, Int.reduceMul, Int.reduceSub, Int.reduceTDiv, Int.reduceTMod, List.flatten_cons, List.flatten_nil, finish_no, tdiv_pos, tmod_pos, Int.reduceDiv, Int.reduceMod, len_add, vi_int, vi_bool, Int.reduceBNe, Int.reduceBEq, Nat.reduceBEq, Nat.reduceBNe, post_some, post_ite, ite_ex, upd_at, upd_ne, cast_nonneg, cast_toNat, Nat.mul_one, false_implies, true_implies, implies_true, chkg_bool, chk_consg, guard_undef, e, hr]
abbrev b58 (p : Option (Nat × Nat)) (n : Nat) (cap : Cap) (o : Int) : Option Blk := some ⟨58, rollC p n cap o, .own⟩
abbrev b63 (k n : Nat) (o : Int) : Option Blk := some ⟨63, rollC (some (k, 0)) n (.exact n) o, .own⟩
theorem run38 {p : Option (Nat × Nat)} {cap : Cap} {rs : List Ac} {o : Int} (hlen : rs.length ≤ 1048576) (hfew : ∀ h ∈ rs, h.xs.length ≤ 1048576) {H : AHeap} (hp : Acs H p rs) (ha : ∀ h ∈ rs, Its H h.p h.xs) : ∃ ys T, ev kk 38 [.agg (rollC p rs.length cap o)] H = some (.agg (rollC (some (H.length + 3, 0)) rs.length (.exact rs.length) o), H ++ b58 p rs.length cap o :: b63 (H.length + 3) rs.length o :: b63 (H.length + 3) rs.length o :: some ⟨36, arows ys, .own⟩ :: T) ∧ Copies (H.length + 3) T rs ys rs.length := by
  obtain ⟨ys, T, e, q⟩ := run60 (cap := cap) (H := H ++ [b58 p rs.length cap o, some ⟨63, [.slice none 0 (.exact 0), .int .i64 0], .own⟩, some ⟨63, [.slice none 0 (.exact 0), .int .i64 0], .own⟩]) hlen hfew (hp.app _) (fun h hh => (ha h hh).app _)
  simp only [List.append_assoc, List.cons_append, List.nil_append, len_app, List.length_cons, List.length_nil, Nat.zero_add, Nat.reduceAdd] at e q
  refine ⟨ys, T, ?_, q⟩
  rw [ev_call c38]; unfold k38; rw [evB_eq rfl]
  simp (maxSteps := 4000000) (disch := first | omega | (refine _root_.id ?_; simp only [pl_int, pl_bool, pl_str, pl_undef, pl_nil, pl_ptr, plA_c, plA_agg, plA_tup, plV_c, plV_agg, List.all_cons, List.all_nil, Bool.and_true, Bool.and_self, eq_self, vi_int, vi_bool, get_app, get_app0, List.getElem?_cons_zero, List.getElem?_cons_succ, Option.join_some, lst_get, getL, upd_at, upd_ne, Nat.reduceBEq])) only [evC_skip, evC_exit, evC_ret, evC_region, evC_seq, evC_block, ev_t, ev_k, putS_some, upd_l, putS_none, ops_nil, ops_pick, pick_bool, ops_consg, guard_bool, evC_condC, cond_bool, ops_cons, next_some, next_none, next_ite, nextD_some, nextD_none, nextD_ite, bind_ite, map_ite, then_ite, then_norm, then_ret, then_exit, out_ite, out_norm, out_ret, out_exit, done_ite, done_norm, done_ret, putL, getL, Option.bind_some, Option.map_some, Option.bind_none, Option.map_none, evalOp, AV.cells?, readCells, readCell, writeCells, get_app, get_app0, set_app, set_app0, len_app, List.getElem?_cons_zero, List.getElem?_cons_succ, Option.join_some, List.length_cons, List.length_nil, List.append_assoc, List.cons_append, List.nil_append, Nat.zero_add, Nat.add_zero, Nat.reduceAdd, Nat.reduceLeDiff, Nat.reduceLT, Nat.reduceMul, Nat.reduceSub, List.drop_zero, List.drop_succ_cons, List.take_zero, List.take_succ_cons, List.take_nil, List.drop_nil, if_true, if_false, ite_true, ite_false, ite_self, ↓reduceIte, reduceCtorEq, binA, binC, intBin, or_false, false_or, or_true, true_or, and_true, true_and, Int.reduceLT, Int.reduceLE, Int.reduceToNat, Int.reduceAdd, evalRs, evalR, AV.toV0?, mkRes, V0.toAV, decide_true, decide_false, and_self, Nat.reduceEqDiff, lst_get, Int.cast_ofNat_Int, eq_self, IntWalk.i64_in, IntWalk.i16_in, IntWalk.i32_in, IntWalk.i8_in, IntWalk.u8_in, Int.reduceNeg, finish_app, finish_id, pl_int, pl_bool, pl_str, pl_undef, pl_nil, pl_ptr, plA_c, plA_agg, plA_tup, plV_c, plV_agg, List.all_cons, List.all_nil, Bool.and_true, Bool.true_and, decide_eq_true_eq, decide_eq_false_iff_not, beq_self_eq_true, Bool.not_true, Bool.not_false, Bool.true_eq_false, Bool.false_eq_true, List.map_cons, List.map_nil, List.append_nil, setAt, CV.ok, eqRes, bne_self_eq_false, List.set_cons_zero, List.set_cons_succ, evC_drawn, dr_nil, dr_cons, chk_nil, chk_cons, re_same, unA, Bool.not_eq_true', Bool.not_eq_eq_eq_not, Bool.not_not, Int.zero_add, List.getElem?_nil, partsA, fillC, Int.reduceEq, Int.reduceMul, Int.reduceSub, Int.reduceTDiv, Int.reduceTMod, List.flatten_cons, List.flatten_nil, finish_no, tdiv_pos, tmod_pos, Int.reduceDiv, Int.reduceMod, len_add, vi_int, vi_bool, Int.reduceBNe, Int.reduceBEq, Nat.reduceBEq, Nat.reduceBNe, post_some, post_ite, ite_ex, upd_at, upd_ne, cast_nonneg, cast_toNat, Nat.mul_one, false_implies, true_implies, implies_true, chkg_bool, chk_consg, guard_undef, e]
theorem run40 {p q : Option (Nat × Nat)} {cap cap' : Cap} {xs ys : List Ac} {o : Int} (hlen : xs.length ≤ 4398046511104) (hxy : SameAs xs ys) {H : AHeap} (hp : Acs H p xs) (hq : Acs H q ys) (hax : ∀ x ∈ xs, AcAt H x) (hay : ∀ y ∈ ys, AcAt H y) : ev kk 40 [.agg (rollC p xs.length cap o), .agg (rollC q ys.length cap' o)] H = some (.c (.bool true), H) := by
  have r63 := fun T => run63 (cap := cap) (cap' := cap') hlen hxy (hp.app T) (hq.app T) (fun x h => (hax x h).app T) (fun y h => (hay y h).app T)
  have ho : (o != o) = false := by simp
  rw [ev_call c40]; unfold k40; rw [evB_eq rfl]
  simp (maxSteps := 4000000) (disch := first | omega | (refine _root_.id ?_; simp only [pl_int, pl_bool, pl_str, pl_undef, pl_nil, pl_ptr, plA_c, plA_agg, plA_tup, plV_c, plV_agg, List.all_cons, List.all_nil, Bool.and_true, Bool.and_self, eq_self, vi_int, vi_bool, get_app, get_app0, List.getElem?_cons_zero, List.getElem?_cons_succ, Option.join_some, lst_get, getL, upd_at, upd_ne, Nat.reduceBEq])) only [evC_skip, evC_exit, evC_ret, evC_region, evC_seq, evC_block, ev_t, ev_k, putS_some, upd_l, putS_none, ops_nil, ops_pick, pick_bool, ops_consg, guard_bool, evC_condC, cond_bool, ops_cons, next_some, next_none, next_ite, nextD_some, nextD_none, nextD_ite, bind_ite, map_ite, then_ite, then_norm, then_ret, then_exit, out_ite, out_norm, out_ret, out_exit, done_ite, done_norm, done_ret, putL, getL, Option.bind_some, Option.map_some, Option.bind_none, Option.map_none, evalOp, AV.cells?, readCells, readCell, writeCells, get_app, get_app0, set_app, set_app0, len_app, List.getElem?_cons_zero, List.getElem?_cons_succ, Option.join_some, List.length_cons, List.length_nil, List.append_assoc, List.cons_append, List.nil_append, Nat.zero_add, Nat.add_zero, Nat.reduceAdd, Nat.reduceLeDiff, Nat.reduceLT, Nat.reduceMul, Nat.reduceSub, List.drop_zero, List.drop_succ_cons, List.take_zero, List.take_succ_cons, List.take_nil, List.drop_nil, if_true, if_false, ite_true, ite_false, ite_self, ↓reduceIte, reduceCtorEq, binA, binC, intBin, or_false, false_or, or_true, true_or, and_true, true_and, Int.reduceLT, Int.reduceLE, Int.reduceToNat, Int.reduceAdd, evalRs, evalR, AV.toV0?, mkRes, V0.toAV, decide_true, decide_false, and_self, Nat.reduceEqDiff, lst_get, Int.cast_ofNat_Int, eq_self, IntWalk.i64_in, IntWalk.i16_in, IntWalk.i32_in, IntWalk.i8_in, IntWalk.u8_in, Int.reduceNeg, finish_app, finish_id, pl_int, pl_bool, pl_str, pl_undef, pl_nil, pl_ptr, plA_c, plA_agg, plA_tup, plV_c, plV_agg, List.all_cons, List.all_nil, Bool.and_true, Bool.true_and, decide_eq_true_eq, decide_eq_false_iff_not, beq_self_eq_true, Bool.not_true, Bool.not_false, Bool.true_eq_false, Bool.false_eq_true, List.map_cons, List.map_nil, List.append_nil, setAt, CV.ok, eqRes, bne_self_eq_false, List.set_cons_zero, List.set_cons_succ, evC_drawn, dr_nil, dr_cons, chk_nil, chk_cons, re_same, unA, Bool.not_eq_true', Bool.not_eq_eq_eq_not, Bool.not_not, Int.zero_add, List.getElem?_nil, partsA, fillC, Int.reduceEq, Int.reduceMul, Int.reduceSub, Int.reduceTDiv, Int.reduceTMod, List.flatten_cons, List.flatten_nil, finish_no, tdiv_pos, tmod_pos, Int.reduceDiv, Int.reduceMod, len_add, vi_int, vi_bool, Int.reduceBNe, Int.reduceBEq, Nat.reduceBEq, Nat.reduceBNe, post_some, post_ite, ite_ex, upd_at, upd_ne, cast_nonneg, cast_toNat, Nat.mul_one, false_implies, true_implies, implies_true, chkg_bool, chk_consg, guard_undef, r63, ho]
theorem any_same {t : ByteArray} : ∀ {rs ys : List Ac}, SameAs rs ys → anyT ys t = anyT rs t
  | [], [], _ => rfl
  | [], _ :: _, h => by have := h.1; simp at this
  | _ :: _, [], h => by have := h.1; simp at this
  | h :: hs, y :: ys, e => by
    have h0 : sameA h y := e.2 0 (by simp) (by simp)
    have ih := any_same (t := t) (rs := hs) (ys := ys) ⟨by have := e.1; simpa using this, fun j h1 h2 => by
      have := e.2 (j + 1) (by simpa using h1) (by simpa using h2); simpa using this⟩
    show (tq y.t t || anyT ys t) = (tq h.t t || anyT hs t)
    rw [ih, h0.1]
theorem take_same {rs ys : List Ac} (h : SameAs rs ys) (i : Nat) : SameAs (rs.take i) (ys.take i) := by
  refine ⟨by rw [List.length_take, List.length_take, h.1], fun j h1 h2 => ?_⟩
  rw [List.getElem_take, List.getElem_take]
  exact h.2 j (by rw [List.length_take] at h1; omega) (by rw [List.length_take] at h2; omega)
theorem bad_same {rs ys : List Ac} (h : SameAs rs ys) (i : Nat) : bad ys i = bad rs i := by
  by_cases hi : i < rs.length
  · have hj : i < ys.length := by rw [h.1]; exact hi
    obtain ⟨a, b, c⟩ := h.2 i hi hj
    rw [bad_at hi, bad_at hj, any_same (take_same h i)]
    unfold okAc
    rw [a, b, c]
  · have hj : ¬ i < ys.length := by rw [h.1]; exact hi
    unfold bad
    rw [List.getElem?_eq_none (by omega), List.getElem?_eq_none (by omega)]
theorem ff_same {rs ys : List Ac} (h : SameAs rs ys) : ∀ n i, ffG ys n i = ffG rs n i
  | 0, _ => rfl
  | n + 1, i => by unfold ffG; rw [bad_same h, ff_same h n]
theorem ow_same : ∀ {rs ys : List Ac} (a : Int), SameAs rs ys → ys.foldl owF a = rs.foldl owF a
  | [], [], _, _ => rfl
  | [], _ :: _, _, h => by have := h.1; simp at this
  | _ :: _, [], _, h => by have := h.1; simp at this
  | h :: hs, y :: ys, a, e => by
    have h0 : sameA h y := e.2 0 (by simp) (by simp)
    have ih := ow_same (rs := hs) (ys := ys) (owF a h) ⟨by have := e.1; simpa using this, fun j h1 h2 => by
      have := e.2 (j + 1) (by simpa using h1) (by simpa using h2); simpa using this⟩
    have e1 : owF a y = owF a h := by unfold owF; rw [h0.2.2]
    rw [List.foldl_cons, List.foldl_cons, e1, ih]
theorem flt_same {rs ys : List Ac} (h : SameAs rs ys) (o : Int) : flt ys o = flt rs o := by
  unfold flt owd
  rw [ff_same h, ow_same 0 h, h.1]
theorem ffR_same {rs ys : List Ac} (h : SameAs rs ys) (o : Int) : ffR ys o = ffR rs o := by
  unfold ffR; rw [flt_same h, h.1]
theorem ffR_shape (rs : List Ac) (o : Int) : ∃ a b, ffR rs o = .tup [.c (.int .i64 a), .c (.int .i64 b)] := by
  unfold ffR
  split
  · exact ⟨_, _, rfl⟩
  · split
    · exact ⟨_, _, rfl⟩
    · exact ⟨_, _, rfl⟩
theorem run10 {p : Option (Nat × Nat)} {cap : Cap} {rs : List Ac} {o : Int} {H : AHeap} (hlen : rs.length ≤ 1152921504606846976) (hp : Acs H p rs) (ha : ∀ h ∈ rs, AcIn H h) : ∃ H', ev kk 10 [.agg (rollC p rs.length cap o)] H = some (.c (.bool true), H') := by
  obtain ⟨r, r36, q36⟩ := run36 (cap := cap) (o := o) (l := 1048576) hlen (by omega) (hp.app [b58 p rs.length cap o]) (fun a h => ⟨(ha a h).str, (ha a h).few, (ha a h).rng, (ha a h).its.app _⟩)
  by_cases hr : r < 0
  · rw [ev_call c10]; unfold k10; rw [evB_eq rfl]
    simp (maxSteps := 4000000) (disch := first | omega | (refine _root_.id ?_; simp only [pl_int, pl_bool, pl_str, pl_undef, pl_nil, pl_ptr, plA_c, plA_agg, plA_tup, plV_c, plV_agg, List.all_cons, List.all_nil, Bool.and_true, Bool.and_self, eq_self, vi_int, vi_bool, get_app, get_app0, List.getElem?_cons_zero, List.getElem?_cons_succ, Option.join_some, lst_get, getL, upd_at, upd_ne, Nat.reduceBEq])) only [evC_skip, evC_exit, evC_ret, evC_region, evC_seq, evC_block, ev_t, ev_k, putS_some, upd_l, putS_none, ops_nil, ops_pick, pick_bool, ops_consg, guard_bool, evC_condC, cond_bool, ops_cons, next_some, next_none, next_ite, nextD_some, nextD_none, nextD_ite, bind_ite, map_ite, then_ite, then_norm, then_ret, then_exit, out_ite, out_norm, out_ret, out_exit, done_ite, done_norm, done_ret, putL, getL, Option.bind_some, Option.map_some, Option.bind_none, Option.map_none, evalOp, AV.cells?, readCells, readCell, writeCells, get_app, get_app0, set_app, set_app0, len_app, List.getElem?_cons_zero, List.getElem?_cons_succ, Option.join_some, List.length_cons, List.length_nil, List.append_assoc, List.cons_append, List.nil_append, Nat.zero_add, Nat.add_zero, Nat.reduceAdd, Nat.reduceLeDiff, Nat.reduceLT, Nat.reduceMul, Nat.reduceSub, List.drop_zero, List.drop_succ_cons, List.take_zero, List.take_succ_cons, List.take_nil, List.drop_nil, if_true, if_false, ite_true, ite_false, ite_self, ↓reduceIte, reduceCtorEq, binA, binC, intBin, or_false, false_or, or_true, true_or, and_true, true_and, Int.reduceLT, Int.reduceLE, Int.reduceToNat, Int.reduceAdd, evalRs, evalR, AV.toV0?, mkRes, V0.toAV, decide_true, decide_false, and_self, Nat.reduceEqDiff, lst_get, Int.cast_ofNat_Int, eq_self, IntWalk.i64_in, IntWalk.i16_in, IntWalk.i32_in, IntWalk.i8_in, IntWalk.u8_in, Int.reduceNeg, finish_app, finish_id, pl_int, pl_bool, pl_str, pl_undef, pl_nil, pl_ptr, plA_c, plA_agg, plA_tup, plV_c, plV_agg, List.all_cons, List.all_nil, Bool.and_true, Bool.true_and, decide_eq_true_eq, decide_eq_false_iff_not, beq_self_eq_true, Bool.not_true, Bool.not_false, Bool.true_eq_false, Bool.false_eq_true, List.map_cons, List.map_nil, List.append_nil, setAt, CV.ok, eqRes, bne_self_eq_false, List.set_cons_zero, List.set_cons_succ, evC_drawn, dr_nil, dr_cons, chk_nil, chk_cons, re_same, unA, Bool.not_eq_true', Bool.not_eq_eq_eq_not, Bool.not_not, Int.zero_add, List.getElem?_nil, partsA, fillC, Int.reduceEq, Int.reduceMul, Int.reduceSub, Int.reduceTDiv, Int.reduceTMod, List.flatten_cons, List.flatten_nil, finish_no, tdiv_pos, tmod_pos, Int.reduceDiv, Int.reduceMod, len_add, vi_int, vi_bool, Int.reduceBNe, Int.reduceBEq, Nat.reduceBEq, Nat.reduceBNe, post_some, post_ite, ite_ex, upd_at, upd_ne, cast_nonneg, cast_toNat, Nat.mul_one, false_implies, true_implies, implies_true, chkg_bool, chk_consg, guard_undef, r36, hr]
    exact ⟨_, rfl⟩
  obtain ⟨hm, hf⟩ := q36 hr
  have hm : rs.length ≤ 1048576 := by omega
  have hf' : ∀ h ∈ rs, h.xs.length ≤ 1048576 := fun h hh => by have := hf h hh; omega
  have hf2 : ∀ h ∈ rs, h.t.size ≤ 1048576 ∧ h.xs.length ≤ 1048576 := fun h hh => by have := hf h hh; omega
  have hrr : ∀ h ∈ rs, ∀ z ∈ h.xs, -128 ≤ z.1 ∧ z.1 ≤ 127 := fun h hh => (ha h hh).rng
  have e38 : ∀ U, ∃ ys T, _ := fun U => run38 (cap := cap) (o := o) (H := H ++ U) hm hf' (hp.app U) (fun h hh => (ha h hh).its.app U)
  have at1 : ∀ {U T : List (Option Blk)} {a b c : Option Blk} {ys : List Ac}, Copies ((H ++ U).length + 3) T rs ys rs.length → ∀ y ∈ ys, AcAt (H ++ U ++ a :: b :: c :: some ⟨36, arows ys, .own⟩ :: T) y := fun {U T a b c ys} k => by
    have k' : Copies (H ++ U ++ [a, b, c]).length T rs ys rs.length := by
      have e : (H ++ U ++ [a, b, c]).length = (H ++ U).length + 3 := List.length_append
      rw [e]; exact k
    have := k'.at_ (b := some ⟨36, arows ys, .own⟩) hf2 hrr
    intro y hy
    have := this y hy
    simpa using this
  have hfs1 : ∀ {U T : List (Option Blk)} {a b c : Option Blk} {ys : List Ac}, Acs (H ++ U ++ a :: b :: c :: some ⟨36, arows ys, .own⟩ :: T) (some ((H ++ U).length + 3, 0)) ys := fun {U T a b c ys} _ => ⟨_, 36, .own, rfl, by rw [get_app]; rfl⟩
  obtain ⟨U1, hU1⟩ : ∃ U : List (Option Blk), U = [b58 p rs.length cap o] := ⟨_, rfl⟩
  obtain ⟨ys1, T1, e1, k1⟩ := e38 U1
  have r37 := run37 (o := o) (p := some ((H ++ U1).length + 3, 0)) (cap := .exact ys1.length) (by have := k1.1; omega) (hfs1 (U := U1) (T := T1) (ys := ys1) (a := b58 p rs.length cap o) (b := b63 ((H ++ U1).length + 3) rs.length o) (c := b63 ((H ++ U1).length + 3) rs.length o)) (at1 k1)
  rw [ffR_same k1.same] at r37
  obtain ⟨a, b, hab⟩ := ffR_shape rs o
  simp only [k1.1] at r37
  rw [hab] at r37
  obtain ⟨U2, hU2⟩ : ∃ U, U = U1 ++ b58 p rs.length cap o :: b63 ((H ++ U1).length + 3) rs.length o :: b63 ((H ++ U1).length + 3) rs.length o :: some ⟨36, arows ys1, .own⟩ :: T1 := ⟨_, rfl⟩
  obtain ⟨ys2, T2, e2, k2⟩ := e38 U2
  obtain ⟨W2, hW2⟩ : ∃ W, W = U2 ++ b58 p rs.length cap o :: b63 ((H ++ U2).length + 3) rs.length o :: b63 ((H ++ U2).length + 3) rs.length o :: some ⟨36, arows ys2, .own⟩ :: T2 ++ [b63 ((H ++ U2).length + 3) rs.length o] := ⟨_, rfl⟩
  have as2 : Acs (H ++ W2) (some ((H ++ U2).length + 3, 0)) ys2 := by
    rw [hW2, ← List.append_assoc, ← List.append_assoc]
    exact (hfs1 (U := U2) (T := T2) (ys := ys2)).app _
  have at2 : ∀ y ∈ ys2, AcAt (H ++ W2) y := by
    rw [hW2, ← List.append_assoc, ← List.append_assoc]
    exact fun y hy => (at1 k2 y hy).app _
  have r39 := run39 (o := o) (cap := .exact ys2.length) (by have := k2.1; omega) as2 at2
  rw [ffR_same k2.same] at r39
  simp only [k2.1] at r39
  rw [hab] at r39
  obtain ⟨ys3, T3, e3, k3⟩ := e38 W2
  have r40 := run40 (o := o) (cap := .exact ys2.length) (cap' := .exact ys3.length) (by have := k2.1; omega) (k2.same.of k3.same) (as2.app _) (hfs1 (U := W2) (T := T3) (ys := ys3) (a := b58 p rs.length cap o) (b := b63 ((H ++ W2).length + 3) rs.length o) (c := b63 ((H ++ W2).length + 3) rs.length o)) (fun y hy => (at2 y hy).app _) (at1 k3)
  simp only [k2.1, k3.1] at r40
  clear as2 at2
  rw [ev_call c10]; unfold k10; rw [evB_eq rfl]
  subst hW2; subst hU2; subst hU1
  simp only [len_app, List.length_cons, List.length_nil, List.append_assoc, List.cons_append, List.nil_append, Nat.zero_add, Nat.reduceAdd, List.length_append, len_add] at e1 e2 e3 r37 r39 r40
  simp (maxSteps := 4000000) (disch := first | omega | (refine _root_.id ?_; simp only [pl_int, pl_bool, pl_str, pl_undef, pl_nil, pl_ptr, plA_c, plA_agg, plA_tup, plV_c, plV_agg, List.all_cons, List.all_nil, Bool.and_true, Bool.and_self, eq_self, vi_int, vi_bool, get_app, get_app0, List.getElem?_cons_zero, List.getElem?_cons_succ, Option.join_some, lst_get, getL, upd_at, upd_ne, Nat.reduceBEq])) only [evC_skip, evC_exit, evC_ret, evC_region, evC_seq, evC_block, ev_t, ev_k, putS_some, upd_l, putS_none, ops_nil, ops_pick, pick_bool, ops_consg, guard_bool, evC_condC, cond_bool, ops_cons, next_some, next_none, next_ite, nextD_some, nextD_none, nextD_ite, bind_ite, map_ite, then_ite, then_norm, then_ret, then_exit, out_ite, out_norm, out_ret, out_exit, done_ite, done_norm, done_ret, putL, getL, Option.bind_some, Option.map_some, Option.bind_none, Option.map_none, evalOp, AV.cells?, readCells, readCell, writeCells, get_app, get_app0, set_app, set_app0, len_app, List.getElem?_cons_zero, List.getElem?_cons_succ, Option.join_some, List.length_cons, List.length_nil, List.append_assoc, List.cons_append, List.nil_append, Nat.zero_add, Nat.add_zero, Nat.reduceAdd, Nat.reduceLeDiff, Nat.reduceLT, Nat.reduceMul, Nat.reduceSub, List.drop_zero, List.drop_succ_cons, List.take_zero, List.take_succ_cons, List.take_nil, List.drop_nil, if_true, if_false, ite_true, ite_false, ite_self, ↓reduceIte, reduceCtorEq, binA, binC, intBin, or_false, false_or, or_true, true_or, and_true, true_and, Int.reduceLT, Int.reduceLE, Int.reduceToNat, Int.reduceAdd, evalRs, evalR, AV.toV0?, mkRes, V0.toAV, decide_true, decide_false, and_self, Nat.reduceEqDiff, lst_get, Int.cast_ofNat_Int, eq_self, IntWalk.i64_in, IntWalk.i16_in, IntWalk.i32_in, IntWalk.i8_in, IntWalk.u8_in, Int.reduceNeg, finish_app, finish_id, pl_int, pl_bool, pl_str, pl_undef, pl_nil, pl_ptr, plA_c, plA_agg, plA_tup, plV_c, plV_agg, List.all_cons, List.all_nil, Bool.and_true, Bool.true_and, decide_eq_true_eq, decide_eq_false_iff_not, beq_self_eq_true, Bool.not_true, Bool.not_false, Bool.true_eq_false, Bool.false_eq_true, List.map_cons, List.map_nil, List.append_nil, setAt, CV.ok, eqRes, bne_self_eq_false, List.set_cons_zero, List.set_cons_succ, evC_drawn, dr_nil, dr_cons, chk_nil, chk_cons, re_same, unA, Bool.not_eq_true', Bool.not_eq_eq_eq_not, Bool.not_not, Int.zero_add, List.getElem?_nil, partsA, fillC, Int.reduceEq, Int.reduceMul, Int.reduceSub, Int.reduceTDiv, Int.reduceTMod, List.flatten_cons, List.flatten_nil, finish_no, tdiv_pos, tmod_pos, Int.reduceDiv, Int.reduceMod, len_add, vi_int, vi_bool, Int.reduceBNe, Int.reduceBEq, Nat.reduceBEq, Nat.reduceBNe, post_some, post_ite, ite_ex, upd_at, upd_ne, cast_nonneg, cast_toNat, Nat.mul_one, false_implies, true_implies, implies_true, chkg_bool, chk_consg, guard_undef, r36, hr, e1, e2, e3, r37, r39, r40, eqC, lkA, stA, lkA0, stA0, cons2, setc2]
  exact ⟨_, rfl⟩
abbrev tyRoll : Ty := .st [.sl 3 48 tyAcc, .int .i64]
theorem ac_inv {H : AHeap} {cs : List CV} (h : ArgOk H tyAcc cs) : ∃ a : Ac, cs = acr a ∧ AcIn H a := by
  obtain ⟨t, p, cap, xs, b, rfl, h1, h2, h3, h4⟩ := acc_inv h
  exact ⟨⟨t, p, cap, xs, b⟩, rfl, h1, h2, h3, h4⟩
theorem roll_inv {H : AHeap} {cs : List CV} (h : ArgOk H tyRoll cs) : ∃ p cap rs o, cs = rollC p rs.length cap o ∧ rs.length ≤ 1152921504606846976 ∧ Acs H p rs ∧ ∀ a ∈ rs, AcIn H a := by
  obtain ⟨_, r, rfl, h1, h2⟩ := h.st_cons
  obtain ⟨_, r, rfl, h3, h4⟩ := h2.st_cons
  obtain rfl := h4.st_nil
  obtain ⟨c, elems, rfl, q1, q2, q3⟩ := h1.sl_inv
  obtain ⟨o, rfl, _⟩ := h3.int_inv
  obtain ⟨rs, rfl, hr⟩ := elems_map (f := acr) (ok := AcIn H) (fun p hp => ac_inv hp) (fun p hp => (q2 p hp).2)
  rw [List.length_map] at q3
  rcases q1 with ⟨rfl, hq⟩ | ⟨id, t, rfl, hq⟩
  · have : rs = [] := by simpa using hq
    subst this
    exact ⟨none, .exact 0, [], o, rfl, by simp, fun h0 => by simp at h0, hr⟩
  · exact ⟨some (id, 0), .any, rs, o, by simp, by omega, fun h0 => ⟨id, t, .ro, rfl, hq (by simpa using h0)⟩, hr⟩
theorem law10 (H : AHeap) (vs : List AV) (h : ArgsOk H [tyRoll] vs) : ∃ H', ev kk 10 vs H = some (.c (.bool true), H') := by
  obtain ⟨_, _, rfl, h1, h2⟩ := h.cons_inv
  obtain rfl := h2.nil_inv
  obtain ⟨cs, rfl, h0⟩ := h1.agg_inv rfl
  obtain ⟨p, cap, rs, o, rfl, q1, q2, q3⟩ := roll_inv h0
  exact run10 q1 q2 q3
end Go.Proofs.Ytebdajfangbdpaa
