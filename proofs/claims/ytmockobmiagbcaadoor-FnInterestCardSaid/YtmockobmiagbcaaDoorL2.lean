/- What functions of the program answer: part L2. -/
import Derived.Test.YtmockobmiagbcaaDoorL1
set_option linter.unusedVariables false
set_option linter.unusedSimpArgs false
set_option linter.unusedSectionVars false
namespace Go.Proofs.YtmockobmiagbcaaDoor
open Go Go.Proofs.YtmockobmiagbcaaDoor.VI
set_option maxHeartbeats 16000000
set_option maxRecDepth 20000
def amt (a : Int) : Prop := 0 ≤ a ∧ a ≤ 100000000
/-- The numbers of an amount's parts. -/
def ptsA (a : Int) : List Int := [a / 240, a / 12 % 20, a % 12]
/-- An amount's text. -/
noncomputable def amtT (a : Int) : List UInt8 := if a = 0 then [48, 100] else joinT [32] (pF (ptsA a) 0)
theorem pF_pos {a : Int} (h : 0 < a) : 0 < (pF (ptsA a) 0).length := by
  unfold ptsA pF pF pF pF
  by_cases h1 : 0 < a / 240
  · simp only [if_pos h1, List.length_append, List.length_cons, List.length_nil]; omega
  · by_cases h2 : 0 < a / 12 % 20
    · simp only [if_pos h2, List.length_append, List.length_cons, List.length_nil]; omega
    · have h3 : 0 < a % 12 := by omega
      simp only [if_pos h3, List.length_append, List.length_cons, List.length_nil]; omega
theorem amtT_len {a : Int} (h : amt a) : (amtT a).length ≤ 500000 := by
  obtain ⟨h0, h1⟩ := h
  have d1 := decD_len (a / 240).toNat
  have d2 := decD_len (a / 12 % 20).toNat
  have d3 := decD_len (a % 12).toNat
  unfold amtT
  by_cases hz : a = 0
  · rw [if_pos hz]; simp
  rw [if_neg hz]
  unfold ptsA pF pF pF pF
  by_cases c1 : 0 < a / 240 <;> by_cases c2 : 0 < a / 12 % 20 <;> by_cases c3 : 0 < a % 12 <;>
    simp only [c1, c2, c3, if_true, if_false, List.nil_append, List.cons_append, List.append_nil, joinT, List.length_append, List.length_cons, List.length_nil] <;> omega
theorem run33 {a : Int} (h : amt a) (H : AHeap) : ev kk 33 [.c (.int .i64 a)] H = some (.c (.str ⟨(amtT a).toArray⟩), H) := by
  have hl := amtT_len h
  obtain ⟨h0, h1⟩ := h
  have r41 := run41 a H
  rw [decide_eq_true (show 0 ≤ a ∧ a ≤ 100000000 from ⟨h0, h1⟩)] at r41
  rw [ev_call c33]; unfold k33; rw [evB_eq rfl]
  by_cases hz : a = 0
  · subst hz
    have e : amtT 0 = [48, 100] := by unfold amtT; rw [if_pos rfl]
    rw [e]
    simp (maxSteps := 4000000) (disch := first | omega | (refine _root_.id ?_; simp only [pl_int, pl_bool, pl_str, pl_undef, pl_nil, pl_ptr, plA_c, plA_agg, plA_tup, plV_c, plV_agg, List.all_cons, List.all_nil, Bool.and_true, Bool.and_self, eq_self, vi_int, vi_bool, get_app, get_app0, List.getElem?_cons_zero, List.getElem?_cons_succ, Option.join_some, lst_get, getL, upd_at, upd_ne, Nat.reduceBEq])) only [evC_skip, evC_exit, evC_ret, evC_region, evC_seq, evC_block, ev_t, ev_k, putS_some, upd_l, putS_none, ops_nil, ops_pick, pick_bool, ops_consg, guard_bool, evC_condC, cond_bool, ops_cons, next_some, next_none, next_ite, nextD_some, nextD_none, nextD_ite, bind_ite, map_ite, then_ite, then_norm, then_ret, then_exit, out_ite, out_norm, out_ret, out_exit, done_ite, done_norm, done_ret, putL, getL, Option.bind_some, Option.map_some, Option.bind_none, Option.map_none, evalOp, AV.cells?, readCells, readCell, writeCells, get_app, get_app0, set_app, set_app0, len_app, List.getElem?_cons_zero, List.getElem?_cons_succ, Option.join_some, List.length_cons, List.length_nil, List.append_assoc, List.cons_append, List.nil_append, Nat.zero_add, Nat.add_zero, Nat.reduceAdd, Nat.reduceLeDiff, Nat.reduceLT, Nat.reduceMul, Nat.reduceSub, List.drop_zero, List.drop_succ_cons, List.take_zero, List.take_succ_cons, List.take_nil, List.drop_nil, if_true, if_false, ite_true, ite_false, ite_self, ↓reduceIte, reduceCtorEq, binA, binC, intBin, or_false, false_or, or_true, true_or, and_true, true_and, Int.reduceLT, Int.reduceLE, Int.reduceToNat, Int.reduceAdd, evalRs, evalR, AV.toV0?, mkRes, V0.toAV, decide_true, decide_false, and_self, Nat.reduceEqDiff, lst_get, Int.cast_ofNat_Int, eq_self, IntWalk.i64_in, IntWalk.i16_in, IntWalk.i32_in, IntWalk.i8_in, IntWalk.u8_in, Int.reduceNeg, finish_app, finish_id, pl_int, pl_bool, pl_str, pl_undef, pl_nil, pl_ptr, plA_c, plA_agg, plA_tup, plV_c, plV_agg, List.all_cons, List.all_nil, Bool.and_true, Bool.true_and, decide_eq_true_eq, decide_eq_false_iff_not, beq_self_eq_true, Bool.not_true, Bool.not_false, Bool.true_eq_false, Bool.false_eq_true, List.map_cons, List.map_nil, List.append_nil, setAt, CV.ok, eqRes, bne_self_eq_false, List.set_cons_zero, List.set_cons_succ, evC_drawn, dr_nil, dr_cons, chk_nil, chk_cons, re_same, unA, Bool.not_eq_true', Bool.not_eq_eq_eq_not, Bool.not_not, Int.zero_add, List.getElem?_nil, partsA, fillC, Int.reduceEq, Int.reduceMul, Int.reduceSub, Int.reduceTDiv, Int.reduceTMod, List.flatten_cons, List.flatten_nil, finish_no, tdiv_pos, tmod_pos, Int.reduceDiv, Int.reduceMod, len_add, vi_int, vi_bool, Int.reduceBNe, Int.reduceBEq, Nat.reduceBEq, Nat.reduceBNe, post_some, post_ite, ite_ex, upd_at, upd_ne, cast_nonneg, cast_toNat, Nat.mul_one, false_implies, true_implies, implies_true, chkg_bool, chk_consg, guard_undef, r41]
  · have hz' : (a == 0) = false := beq_eq_false_iff_ne.2 hz
    have e : amtT a = joinT [32] (pF (ptsA a) 0) := by unfold amtT; rw [if_neg hz]
    rw [e] at hl ⊢
    obtain ⟨X, hX⟩ : ∃ X, X = a / 240 := ⟨_, rfl⟩
    obtain ⟨Y, hY⟩ : ∃ Y, Y = a / 12 % 20 := ⟨_, rfl⟩
    obtain ⟨Z, hZ⟩ : ∃ Z, Z = a % 12 := ⟨_, rfl⟩
    have hp : ptsA a = [X, Y, Z] := by unfold ptsA; rw [hX, hY, hZ]
    have hpos := pF_pos (a := a) (by omega)
    rw [hp] at hl hpos ⊢
    have hG : AHeap.get (H ++ [some ⟨9, [], .own⟩, some ⟨2, [.int .i64 X, .int .i64 Y, .int .i64 Z], .own⟩]) (H.length + 1) = some ⟨2, [X, Y, Z].map (CV.int .i64), .own⟩ := by rw [get_app]; rfl
    have hb : ∀ x ∈ [X, Y, Z], 0 ≤ x ∧ x ≤ 100000000 := by intro x hx; simp at hx; omega
    have t1 : a.tdiv 240 = X := by rw [hX]; exact Int.tdiv_eq_ediv_of_nonneg h0
    have t2 : a.tdiv 12 = a / 12 := Int.tdiv_eq_ediv_of_nonneg h0
    have t3 : (a / 12).tmod 20 = Y := by rw [hY]; exact Int.tmod_eq_emod_of_nonneg (by omega)
    have t4 : a.tmod 12 = Z := by rw [hZ]; exact Int.tmod_eq_emod_of_nonneg h0
    obtain ⟨_, σ', J1, eL, rfl, p1, o1⟩ := loop33 (xs := [X, Y, Z]) rfl hb hG (cp := .exact 3) 3 0 rfl [] (by simp) (H ++ [some ⟨9, [], .own⟩, some ⟨2, [.int .i64 X, .int .i64 Y, .int .i64 Z], .own⟩]) .refl (.c (.slice (some (H.length, 0)) 0 (.exact 0))) (.inl ⟨rfl, rfl, _, rfl⟩) (lst [.c (.int .i64 a), .c .undef, .c (.str ⟨#[]⟩), .c (.slice (some (H.length, 0)) 0 (.exact 0)), .c .undef, .c .undef, .c (.int .i64 a), .c (.bool true), .c (.bool false), .c (.int .i64 a), .c (.bool false), .c (.slice (some (H.length, 0)) 0 (.exact 0)), .c (.int .i64 a), .c (.int .i64 X), .c (.int .i64 a), .c (.int .i64 (a / 12)), .c (.int .i64 Y), .c (.int .i64 a), .c (.int .i64 Z), .c (.slice (some (H.length + 1, 0)) 3 (.exact 3)), .c (.int .i64 3), .c (.int .i64 0)]) rfl rfl rfl rfl
    rw [List.drop_zero, List.nil_append] at o1
    have pH : Pre H J1 := pre_app.trans p1
    have hlen := pF_len [X, Y, Z] 0
    obtain ⟨id, hv, hid, hg⟩ : ∃ id, σ' 3 = .c (.slice (some (id, 0)) (pF [X, Y, Z] 0).length (.toEnd 1)) ∧ True ∧ J1.get id = some ⟨9, strs (pF [X, Y, Z] 0), .opn⟩ := by
      rcases o1 with ⟨h, _⟩ | ⟨_, _, id, h1, _, h4⟩
      · omega
      · exact ⟨id, h1, trivial, h4⟩
    have r61 := run61 (t := [32]) (cap := .toEnd 1) hg hpos (by simp at hlen; omega) (by omega)
    have fin : ∀ v : AV, v.plain = true → finish true H v J1 = some (v, H) := fun v hv => finish_pre pH hv
    simp (maxSteps := 4000000) (disch := first | omega | (refine _root_.id ?_; simp only [pl_int, pl_bool, pl_str, pl_undef, pl_nil, pl_ptr, plA_c, plA_agg, plA_tup, plV_c, plV_agg, List.all_cons, List.all_nil, Bool.and_true, Bool.and_self, eq_self, vi_int, vi_bool, get_app, get_app0, List.getElem?_cons_zero, List.getElem?_cons_succ, Option.join_some, lst_get, getL, upd_at, upd_ne, Nat.reduceBEq])) only [evC_skip, evC_exit, evC_ret, evC_region, evC_seq, evC_block, ev_t, ev_k, putS_some, upd_l, putS_none, ops_nil, ops_pick, pick_bool, ops_consg, guard_bool, evC_condC, cond_bool, ops_cons, next_some, next_none, next_ite, nextD_some, nextD_none, nextD_ite, bind_ite, map_ite, then_ite, then_norm, then_ret, then_exit, out_ite, out_norm, out_ret, out_exit, done_ite, done_norm, done_ret, putL, getL, Option.bind_some, Option.map_some, Option.bind_none, Option.map_none, evalOp, AV.cells?, readCells, readCell, writeCells, get_app, get_app0, set_app, set_app0, len_app, List.getElem?_cons_zero, List.getElem?_cons_succ, Option.join_some, List.length_cons, List.length_nil, List.append_assoc, List.cons_append, List.nil_append, Nat.zero_add, Nat.add_zero, Nat.reduceAdd, Nat.reduceLeDiff, Nat.reduceLT, Nat.reduceMul, Nat.reduceSub, List.drop_zero, List.drop_succ_cons, List.take_zero, List.take_succ_cons, List.take_nil, List.drop_nil, if_true, if_false, ite_true, ite_false, ite_self, ↓reduceIte, reduceCtorEq, binA, binC, intBin, or_false, false_or, or_true, true_or, and_true, true_and, Int.reduceLT, Int.reduceLE, Int.reduceToNat, Int.reduceAdd, evalRs, evalR, AV.toV0?, mkRes, V0.toAV, decide_true, decide_false, and_self, Nat.reduceEqDiff, lst_get, Int.cast_ofNat_Int, eq_self, IntWalk.i64_in, IntWalk.i16_in, IntWalk.i32_in, IntWalk.i8_in, IntWalk.u8_in, Int.reduceNeg, finish_app, finish_id, pl_int, pl_bool, pl_str, pl_undef, pl_nil, pl_ptr, plA_c, plA_agg, plA_tup, plV_c, plV_agg, List.all_cons, List.all_nil, Bool.and_true, Bool.true_and, decide_eq_true_eq, decide_eq_false_iff_not, beq_self_eq_true, Bool.not_true, Bool.not_false, Bool.true_eq_false, Bool.false_eq_true, List.map_cons, List.map_nil, List.append_nil, setAt, CV.ok, eqRes, bne_self_eq_false, List.set_cons_zero, List.set_cons_succ, evC_drawn, dr_nil, dr_cons, chk_nil, chk_cons, re_same, unA, Bool.not_eq_true', Bool.not_eq_eq_eq_not, Bool.not_not, Int.zero_add, List.getElem?_nil, partsA, fillC, Int.reduceEq, Int.reduceMul, Int.reduceSub, Int.reduceTDiv, Int.reduceTMod, List.flatten_cons, List.flatten_nil, finish_no, tdiv_pos, tmod_pos, Int.reduceDiv, Int.reduceMod, len_add, vi_int, vi_bool, Int.reduceBNe, Int.reduceBEq, Nat.reduceBEq, Nat.reduceBNe, post_some, post_ite, ite_ex, upd_at, upd_ne, cast_nonneg, cast_toNat, Nat.mul_one, false_implies, true_implies, implies_true, chkg_bool, chk_consg, guard_undef, r41, hz', t1, t2, t3, t4, ← hX, ← hY, ← hZ, eL, hv, r61, fin]
/-! The reference -/
end Go.Proofs.YtmockobmiagbcaaDoor
