/- What functions of the program answer: part FaultLaw. -/
import Derived.Test.YtebdajfangbdpaaFault4
import Derived.Test.YtebdajfangbdpaaLk
set_option linter.unusedVariables false
set_option linter.unusedSimpArgs false
set_option linter.unusedSectionVars false
namespace Go.Proofs.Ytebdajfangbdpaa
open Go Go.Proofs.Ytebdajfangbdpaa.VI
set_option maxHeartbeats 16000000
set_option maxRecDepth 20000
theorem run36 {p : Option (Nat × Nat)} {cap : Cap} {rs : List Ac} {o l : Int} (hlen : rs.length ≤ 1152921504606846976) (hl : 0 ≤ l ∧ l ≤ 4398046511104) {H : AHeap} (hp : Acs H p rs) (ha : ∀ a ∈ rs, AcIn H a) : ∃ r, ev kk 36 [.agg (rollC p rs.length cap o), .c (.int .i64 l)] H = some (.c (.int .i64 r), H) ∧ (¬ r < 0 → (rs.length : Int) ≤ l ∧ ∀ a ∈ rs, (a.t.size : Int) ≤ l ∧ (a.xs.length : Int) ≤ l) := by
  obtain ⟨r, e, q⟩ := run58 (cap := cap) hlen hl (hp.app [some ⟨58, rollC p rs.length cap o, .own⟩]) (fun a h => ⟨(ha a h).str, (ha a h).few, (ha a h).rng, (ha a h).its.app _⟩)
  by_cases hr : r < 0
  · refine ⟨-1, ?_, fun h => by omega⟩
    rw [ev_call c36]; unfold k36; rw [evB_eq rfl]
    simp (maxSteps := 4000000) (disch := first | omega | (refine _root_.id ?_; simp only [pl_int, pl_bool, pl_str, pl_undef, pl_nil, pl_ptr, plA_c, plA_agg, plA_tup, plV_c, plV_agg, List.all_cons, List.all_nil, Bool.and_true, Bool.and_self, eq_self, vi_int, vi_bool, get_app, get_app0, List.getElem?_cons_zero, List.getElem?_cons_succ, Option.join_some, lst_get, getL, upd_at, upd_ne, Nat.reduceBEq])) only [evC_skip, evC_exit, evC_ret, evC_region, evC_seq, evC_block, ev_t, ev_k, putS_some, upd_l, putS_none, ops_nil, ops_pick, pick_bool, ops_consg, guard_bool, evC_condC, cond_bool, ops_cons, next_some, next_none, next_ite, nextD_some, nextD_none, nextD_ite, bind_ite, map_ite, then_ite, then_norm, then_ret, then_exit, out_ite, out_norm, out_ret, out_exit, done_ite, done_norm, done_ret, putL, getL, Option.bind_some, Option.map_some, Option.bind_none, Option.map_none, evalOp, AV.cells?, readCells, readCell, writeCells, get_app, get_app0, set_app, set_app0, len_app, List.getElem?_cons_zero, List.getElem?_cons_succ, Option.join_some, List.length_cons, List.length_nil, List.append_assoc, List.cons_append, List.nil_append, Nat.zero_add, Nat.add_zero, Nat.reduceAdd, Nat.reduceLeDiff, Nat.reduceLT, Nat.reduceMul, Nat.reduceSub, List.drop_zero, List.drop_succ_cons, List.take_zero, List.take_succ_cons, List.take_nil, List.drop_nil, if_true, if_false, ite_true, ite_false, ite_self, ↓reduceIte, reduceCtorEq, binA, binC, intBin, or_false, false_or, or_true, true_or, and_true, true_and, Int.reduceLT, Int.reduceLE, Int.reduceToNat, Int.reduceAdd, evalRs, evalR, AV.toV0?, mkRes, V0.toAV, decide_true, decide_false, and_self, Nat.reduceEqDiff, lst_get, Int.cast_ofNat_Int, eq_self, IntWalk.i64_in, IntWalk.i16_in, IntWalk.i32_in, IntWalk.i8_in, IntWalk.u8_in, Int.reduceNeg, finish_app, finish_id, pl_int, pl_bool, pl_str, pl_undef, pl_nil, pl_ptr, plA_c, plA_agg, plA_tup, plV_c, plV_agg, List.all_cons, List.all_nil, Bool.and_true, Bool.true_and, decide_eq_true_eq, decide_eq_false_iff_not, beq_self_eq_true, Bool.not_true, Bool.not_false, Bool.true_eq_false, Bool.false_eq_true, List.map_cons, List.map_nil, List.append_nil, setAt, CV.ok, eqRes, bne_self_eq_false, List.set_cons_zero, List.set_cons_succ, evC_drawn, dr_nil, dr_cons, chk_nil, chk_cons, re_same, unA, Bool.not_eq_true', Bool.not_eq_eq_eq_not, Bool.not_not, Int.zero_add, List.getElem?_nil, partsA, fillC, Int.reduceEq, Int.reduceMul, Int.reduceSub, Int.reduceTDiv, Int.reduceTMod, List.flatten_cons, List.flatten_nil, finish_no, tdiv_pos, tmod_pos, Int.reduceDiv, Int.reduceMod, len_add, vi_int, vi_bool, Int.reduceBNe, Int.reduceBEq, Nat.reduceBEq, Nat.reduceBNe, post_some, post_ite, ite_ex, upd_at, upd_ne, cast_nonneg, cast_toNat, Nat.mul_one, false_implies, true_implies, implies_true, chkg_bool, chk_consg, guard_undef, e, hr]
  · refine ⟨r, ?_, fun _ => q hr⟩
    rw [ev_call c36]; unfold k36; rw [evB_eq rfl]
    simp (maxSteps := 4000000) (disch := first | omega | (refine _root_.id ?_; simp only [pl_int, pl_bool, pl_str, pl_undef, pl_nil, pl_ptr, plA_c, plA_agg, plA_tup, plV_c, plV_agg, List.all_cons, List.all_nil, Bool.and_true, Bool.and_self, eq_self, vi_int, vi_bool, get_app, get_app0, List.getElem?_cons_zero, List.getElem?_cons_succ, Option.join_some, lst_get, getL, upd_at, upd_ne, Nat.reduceBEq])) only [evC_skip, evC_exit, evC_ret, evC_region, evC_seq, evC_block, ev_t, ev_k, putS_some, upd_l, putS_none, ops_nil, ops_pick, pick_bool, ops_consg, guard_bool, evC_condC, cond_bool, ops_cons, next_some, next_none, next_ite, nextD_some, nextD_none, nextD_ite, bind_ite, map_ite, then_ite, then_norm, then_ret, then_exit, out_ite, out_norm, out_ret, out_exit, done_ite, done_norm, done_ret, putL, getL, Option.bind_some, Option.map_some, Option.bind_none, Option.map_none, evalOp, AV.cells?, readCells, readCell, writeCells, get_app, get_app0, set_app, set_app0, len_app, List.getElem?_cons_zero, List.getElem?_cons_succ, Option.join_some, List.length_cons, List.length_nil, List.append_assoc, List.cons_append, List.nil_append, Nat.zero_add, Nat.add_zero, Nat.reduceAdd, Nat.reduceLeDiff, Nat.reduceLT, Nat.reduceMul, Nat.reduceSub, List.drop_zero, List.drop_succ_cons, List.take_zero, List.take_succ_cons, List.take_nil, List.drop_nil, if_true, if_false, ite_true, ite_false, ite_self, ↓reduceIte, reduceCtorEq, binA, binC, intBin, or_false, false_or, or_true, true_or, and_true, true_and, Int.reduceLT, Int.reduceLE, Int.reduceToNat, Int.reduceAdd, evalRs, evalR, AV.toV0?, mkRes, V0.toAV, decide_true, decide_false, and_self, Nat.reduceEqDiff, lst_get, Int.cast_ofNat_Int, eq_self, IntWalk.i64_in, IntWalk.i16_in, IntWalk.i32_in, IntWalk.i8_in, IntWalk.u8_in, Int.reduceNeg, finish_app, finish_id, pl_int, pl_bool, pl_str, pl_undef, pl_nil, pl_ptr, plA_c, plA_agg, plA_tup, plV_c, plV_agg, List.all_cons, List.all_nil, Bool.and_true, Bool.true_and, decide_eq_true_eq, decide_eq_false_iff_not, beq_self_eq_true, Bool.not_true, Bool.not_false, Bool.true_eq_false, Bool.false_eq_true, List.map_cons, List.map_nil, List.append_nil, setAt, CV.ok, eqRes, bne_self_eq_false, List.set_cons_zero, List.set_cons_succ, evC_drawn, dr_nil, dr_cons, chk_nil, chk_cons, re_same, unA, Bool.not_eq_true', Bool.not_eq_eq_eq_not, Bool.not_not, Int.zero_add, List.getElem?_nil, partsA, fillC, Int.reduceEq, Int.reduceMul, Int.reduceSub, Int.reduceTDiv, Int.reduceTMod, List.flatten_cons, List.flatten_nil, finish_no, tdiv_pos, tmod_pos, Int.reduceDiv, Int.reduceMod, len_add, vi_int, vi_bool, Int.reduceBNe, Int.reduceBEq, Nat.reduceBEq, Nat.reduceBNe, post_some, post_ite, ite_ex, upd_at, upd_ne, cast_nonneg, cast_toNat, Nat.mul_one, false_implies, true_implies, implies_true, chkg_bool, chk_consg, guard_undef, e, hr]
abbrev b58 (p : Option (Nat × Nat)) (n : Nat) (cap : Cap) (o : Int) : Option Blk := some ⟨58, rollC p n cap o, .own⟩
abbrev b63 (k n : Nat) (o : Int) : Option Blk := some ⟨63, rollC (some (k, 0)) n (.exact n) o, .own⟩
theorem run38 {p : Option (Nat × Nat)} {cap : Cap} {rs : List Ac} {o : Int} (hlen : rs.length ≤ 1048576) (hfew : ∀ h ∈ rs, h.xs.length ≤ 1048576) {H : AHeap} (hp : Acs H p rs) (ha : ∀ h ∈ rs, Its H h.p h.xs) : ∃ ys T, ev kk 38 [.agg (rollC p rs.length cap o)] H = some (.agg (rollC (some (H.length + 3, 0)) rs.length (.exact rs.length) o), H ++ b58 p rs.length cap o :: b63 (H.length + 3) rs.length o :: b63 (H.length + 3) rs.length o :: some ⟨36, arows ys, .own⟩ :: T) ∧ Copies (H.length + 3) T rs ys rs.length := by
  obtain ⟨ys, T, e, q⟩ := run60 (cap := cap) (H := H ++ [b58 p rs.length cap o, some ⟨63, [.slice none 0 (.exact 0), .int .i64 0], .own⟩, some ⟨63, [.slice none 0 (.exact 0), .int .i64 0], .own⟩]) hlen hfew (hp.app _) (fun h hh => (ha h hh).app _)
  simp only [List.append_assoc, List.cons_append, List.nil_append, len_app, List.length_cons, List.length_nil, Nat.zero_add, Nat.reduceAdd] at e q
  refine ⟨ys, T, ?_, q⟩
  rw [ev_call c38]; unfold k38; rw [evB_eq rfl]
  simp (maxSteps := 4000000) (disch := first | omega | (refine _root_.id ?_; simp only [pl_int, pl_bool, pl_str, pl_undef, pl_nil, pl_ptr, plA_c, plA_agg, plA_tup, plV_c, plV_agg, List.all_cons, List.all_nil, Bool.and_true, Bool.and_self, eq_self, vi_int, vi_bool, get_app, get_app0, List.getElem?_cons_zero, List.getElem?_cons_succ, Option.join_some, lst_get, getL, upd_at, upd_ne, Nat.reduceBEq])) only [evC_skip, evC_exit, evC_ret, evC_region, evC_seq, evC_block, ev_t, ev_k, putS_some, upd_l, putS_none, ops_nil, ops_pick, pick_bool, ops_consg, guard_bool, evC_condC, cond_bool, ops_cons, next_some, next_none, next_ite, nextD_some, nextD_none, nextD_ite, bind_ite, map_ite, then_ite, then_norm, then_ret, then_exit, out_ite, out_norm, out_ret, out_exit, done_ite, done_norm, done_ret, putL, getL, Option.bind_some, Option.map_some, Option.bind_none, Option.map_none, evalOp, AV.cells?, readCells, readCell, writeCells, get_app, get_app0, set_app, set_app0, len_app, List.getElem?_cons_zero, List.getElem?_cons_succ, Option.join_some, List.length_cons, List.length_nil, List.append_assoc, List.cons_append, List.nil_append, Nat.zero_add, Nat.add_zero, Nat.reduceAdd, Nat.reduceLeDiff, Nat.reduceLT, Nat.reduceMul, Nat.reduceSub, List.drop_zero, List.drop_succ_cons, List.take_zero, List.take_succ_cons, List.take_nil, List.drop_nil, if_true, if_false, ite_true, ite_false, ite_self, ↓reduceIte, reduceCtorEq, binA, binC, intBin, or_false, false_or, or_true, true_or, and_true, true_and, Int.reduceLT, Int.reduceLE, Int.reduceToNat, Int.reduceAdd, evalRs, evalR, AV.toV0?, mkRes, V0.toAV, decide_true, decide_false, and_self, Nat.reduceEqDiff, lst_get, Int.cast_ofNat_Int, eq_self, IntWalk.i64_in, IntWalk.i16_in, IntWalk.i32_in, IntWalk.i8_in, IntWalk.u8_in, Int.reduceNeg, finish_app, finish_id, pl_int, pl_bool, pl_str, pl_undef, pl_nil, pl_ptr, plA_c, plA_agg, plA_tup, plV_c, plV_agg, List.all_cons, List.all_nil, Bool.and_true, Bool.true_and, decide_eq_true_eq, decide_eq_false_iff_not, beq_self_eq_true, Bool.not_true, Bool.not_false, Bool.true_eq_false, Bool.false_eq_true, List.map_cons, List.map_nil, List.append_nil, setAt, CV.ok, eqRes, bne_self_eq_false, List.set_cons_zero, List.set_cons_succ, evC_drawn, dr_nil, dr_cons, chk_nil, chk_cons, re_same, unA, Bool.not_eq_true', Bool.not_eq_eq_eq_not, Bool.not_not, Int.zero_add, List.getElem?_nil, partsA, fillC, Int.reduceEq, Int.reduceMul, Int.reduceSub, Int.reduceTDiv, Int.reduceTMod, List.flatten_cons, List.flatten_nil, finish_no, tdiv_pos, tmod_pos, Int.reduceDiv, Int.reduceMod, len_add, vi_int, vi_bool, Int.reduceBNe, Int.reduceBEq, Nat.reduceBEq, Nat.reduceBNe, post_some, post_ite, ite_ex, upd_at, upd_ne, cast_nonneg, cast_toNat, Nat.mul_one, false_implies, true_implies, implies_true, chkg_bool, chk_consg, guard_undef, e]
theorem run40 {p q : Option (Nat × Nat)} {cap cap' : Cap} {xs ys : List Ac} {o : Int} (hlen : xs.length ≤ 4398046511104) (hxy : SameAs xs ys) {H : AHeap} (hp : Acs H p xs) (hq : Acs H q ys) (hax : ∀ x ∈ xs, AcAt H x) (hay : ∀ y ∈ ys, AcAt H y) : ev kk 40 [.agg (rollC p xs.length cap o), .agg (rollC q ys.length cap' o)] H = some (.c (.bool true), H) := by
  have r63 := fun T => run63 (cap := cap) (cap' := cap') hlen hxy (hp.app T) (hq.app T) (fun x h => (hax x h).app T) (fun y h => (hay y h).app T)
  have ho : (o != o) = false := by simp
  rw [ev_call c40]; unfold k40; rw [evB_eq rfl]
  simp (maxSteps := 4000000) (disch := first | omega | (refine _root_.id ?_; simp only [pl_int, pl_bool, pl_str, pl_undef, pl_nil, pl_ptr, plA_c, plA_agg, plA_tup, plV_c, plV_agg, List.all_cons, List.all_nil, Bool.and_true, Bool.and_self, eq_self, vi_int, vi_bool, get_app, get_app0, List.getElem?_cons_zero, List.getElem?_cons_succ, Option.join_some, lst_get, getL, upd_at, upd_ne, Nat.reduceBEq])) only [evC_skip, evC_exit, evC_ret, evC_region, evC_seq, evC_block, ev_t, ev_k, putS_some, upd_l, putS_none, ops_nil, ops_pick, pick_bool, ops_consg, guard_bool, evC_condC, cond_bool, ops_cons, next_some, next_none, next_ite, nextD_some, nextD_none, nextD_ite, bind_ite, map_ite, then_ite, then_norm, then_ret, then_exit, out_ite, out_norm, out_ret, out_exit, done_ite, done_norm, done_ret, putL, getL, Option.bind_some, Option.map_some, Option.bind_none, Option.map_none, evalOp, AV.cells?, readCells, readCell, writeCells, get_app, get_app0, set_app, set_app0, len_app, List.getElem?_cons_zero, List.getElem?_cons_succ, Option.join_some, List.length_cons, List.length_nil, List.append_assoc, List.cons_append, List.nil_append, Nat.zero_add, Nat.add_zero, Nat.reduceAdd, Nat.reduceLeDiff, Nat.reduceLT, Nat.reduceMul, Nat.reduceSub, List.drop_zero, List.drop_succ_cons, List.take_zero, List.take_succ_cons, List.take_nil, List.drop_nil, if_true, if_false, ite_true, ite_false, ite_self, ↓reduceIte, reduceCtorEq, binA, binC, intBin, or_false, false_or, or_true, true_or, and_true, true_and, Int.reduceLT, Int.reduceLE, Int.reduceToNat, Int.reduceAdd, evalRs, evalR, AV.toV0?, mkRes, V0.toAV, decide_true, decide_false, and_self, Nat.reduceEqDiff, lst_get, Int.cast_ofNat_Int, eq_self, IntWalk.i64_in, IntWalk.i16_in, IntWalk.i32_in, IntWalk.i8_in, IntWalk.u8_in, Int.reduceNeg, finish_app, finish_id, pl_int, pl_bool, pl_str, pl_undef, pl_nil, pl_ptr, plA_c, plA_agg, plA_tup, plV_c, plV_agg, List.all_cons, List.all_nil, Bool.and_true, Bool.true_and, decide_eq_true_eq, decide_eq_false_iff_not, beq_self_eq_true, Bool.not_true, Bool.not_false, Bool.true_eq_false, Bool.false_eq_true, List.map_cons, List.map_nil, List.append_nil, setAt, CV.ok, eqRes, bne_self_eq_false, List.set_cons_zero, List.set_cons_succ, evC_drawn, dr_nil, dr_cons, chk_nil, chk_cons, re_same, unA, Bool.not_eq_true', Bool.not_eq_eq_eq_not, Bool.not_not, Int.zero_add, List.getElem?_nil, partsA, fillC, Int.reduceEq, Int.reduceMul, Int.reduceSub, Int.reduceTDiv, Int.reduceTMod, List.flatten_cons, List.flatten_nil, finish_no, tdiv_pos, tmod_pos, Int.reduceDiv, Int.reduceMod, len_add, vi_int, vi_bool, Int.reduceBNe, Int.reduceBEq, Nat.reduceBEq, Nat.reduceBNe, post_some, post_ite, ite_ex, upd_at, upd_ne, cast_nonneg, cast_toNat, Nat.mul_one, false_implies, true_implies, implies_true, chkg_bool, chk_consg, guard_undef, r63, ho]
theorem any_same {t : ByteArray} : ∀ {rs ys : List Ac}, SameAs rs ys → anyT ys t = anyT rs t
  | [], [], _ => rfl
  | [], _ :: _, h => by have := h.1; simp at this
  | _ :: _, [], h => by have := h.1; simp at this
  | h :: hs, y :: ys, e => by
    have h0 : sameA h y := e.2 0 (by simp) (by simp)
    have ih := any_same (t := t) (rs := hs) (ys := ys) ⟨by have := e.1; simpa using this, fun j h1 h2 => by
      have := e.2 (j + 1) (by simpa using h1) (by simpa using h2); simpa using this⟩
    show (tq y.t t || anyT ys t) = (tq h.t t || anyT hs t)
    rw [ih, h0.1]
theorem take_same {rs ys : List Ac} (h : SameAs rs ys) (i : Nat) : SameAs (rs.take i) (ys.take i) := by
  refine ⟨by rw [List.length_take, List.length_take, h.1], fun j h1 h2 => ?_⟩
  rw [List.getElem_take, List.getElem_take]
  exact h.2 j (by rw [List.length_take] at h1; omega) (by rw [List.length_take] at h2; omega)
theorem bad_same {rs ys : List Ac} (h : SameAs rs ys) (i : Nat) : bad ys i = bad rs i := by
  by_cases hi : i < rs.length
  · have hj : i < ys.length := by rw [h.1]; exact hi
    obtain ⟨a, b, c⟩ := h.2 i hi hj
    rw [bad_at hi, bad_at hj, any_same (take_same h i)]
    unfold okAc
    rw [a, b, c]
  · have hj : ¬ i < ys.length := by rw [h.1]; exact hi
    unfold bad
    rw [List.getElem?_eq_none (by omega), List.getElem?_eq_none (by omega)]
theorem ff_same {rs ys : List Ac} (h : SameAs rs ys) : ∀ n i, ffG ys n i = ffG rs n i
  | 0, _ => rfl
  | n + 1, i => by unfold ffG; rw [bad_same h, ff_same h n]
theorem ow_same : ∀ {rs ys : List Ac} (a : Int), SameAs rs ys → ys.foldl owF a = rs.foldl owF a
  | [], [], _, _ => rfl
  | [], _ :: _, _, h => by have := h.1; simp at this
  | _ :: _, [], _, h => by have := h.1; simp at this
  | h :: hs, y :: ys, a, e => by
    have h0 : sameA h y := e.2 0 (by simp) (by simp)
    have ih := ow_same (rs := hs) (ys := ys) (owF a h) ⟨by have := e.1; simpa using this, fun j h1 h2 => by
      have := e.2 (j + 1) (by simpa using h1) (by simpa using h2); simpa using this⟩
    have e1 : owF a y = owF a h := by unfold owF; rw [h0.2.2]
    rw [List.foldl_cons, List.foldl_cons, e1, ih]
theorem flt_same {rs ys : List Ac} (h : SameAs rs ys) (o : Int) : flt ys o = flt rs o := by
  unfold flt owd
  rw [ff_same h, ow_same 0 h, h.1]
abbrev tyRoll : Ty := .st [.sl 3 48 tyAcc, .int .i64]
theorem ac_inv {H : AHeap} {cs : List CV} (h : ArgOk H tyAcc cs) : ∃ a : Ac, cs = acr a ∧ AcIn H a := by
  obtain ⟨t, p, cap, xs, b, rfl, h1, h2, h3, h4⟩ := acc_inv h
  exact ⟨⟨t, p, cap, xs, b⟩, rfl, h1, h2, h3, h4⟩
theorem roll_inv {H : AHeap} {cs : List CV} (h : ArgOk H tyRoll cs) : ∃ p cap rs o, cs = rollC p rs.length cap o ∧ rs.length ≤ 1152921504606846976 ∧ Acs H p rs ∧ ∀ a ∈ rs, AcIn H a := by
  obtain ⟨_, r, rfl, h1, h2⟩ := h.st_cons
  obtain ⟨_, r, rfl, h3, h4⟩ := h2.st_cons
  obtain rfl := h4.st_nil
  obtain ⟨c, elems, rfl, q1, q2, q3⟩ := h1.sl_inv
  obtain ⟨o, rfl, _⟩ := h3.int_inv
  obtain ⟨rs, rfl, hr⟩ := elems_map (f := acr) (ok := AcIn H) (fun p hp => ac_inv hp) (fun p hp => (q2 p hp).2)
  rw [List.length_map] at q3
  rcases q1 with ⟨rfl, hq⟩ | ⟨id, t, rfl, hq⟩
  · have : rs = [] := by simpa using hq
    subst this
    exact ⟨none, .exact 0, [], o, rfl, by simp, fun h0 => by simp at h0, hr⟩
  · exact ⟨some (id, 0), .any, rs, o, by simp, by omega, fun h0 => ⟨id, t, .ro, rfl, hq (by simpa using h0)⟩, hr⟩
end Go.Proofs.Ytebdajfangbdpaa
