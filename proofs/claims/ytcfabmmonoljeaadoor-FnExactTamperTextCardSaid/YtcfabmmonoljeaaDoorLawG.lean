/- What functions of the program answer: part LawG. -/
import Derived.Test.YtcfabmmonoljeaaDoorCut4
import Derived.Test.YtcfabmmonoljeaaDoorMarks
import Derived.Test.YtcfabmmonoljeaaDoorLies2
import Derived.Test.YtcfabmmonoljeaaDoorHalvesInv
set_option linter.unusedVariables false
set_option linter.unusedSimpArgs false
set_option linter.unusedSectionVars false
namespace Go.Proofs.YtcfabmmonoljeaaDoor
open Go Go.Proofs.YtcfabmmonoljeaaDoor.VI
set_option maxHeartbeats 16000000
set_option maxRecDepth 20000
/-! What a law makes of its arguments -/
structure HfOwn (H J : AHeap) (y : Hf) : Prop where
  few : y.xs.length ≤ 1048576
  rng : ∀ x ∈ y.xs, rngN x
  own : ∃ id, y.p = some (id, 0) ∧ H.length ≤ id ∧ J.get id = ncpy y.xs
theorem HfOwn.nw {H J : AHeap} {y : Hf} (h : HfOwn H J y) : HfNw H J y := by
  obtain ⟨id, h1, h2, h3⟩ := h.own
  exact ⟨by have := h.few; omega, h.rng, fun _ => ⟨id, .own, h1, h2, h3, .inl rfl⟩⟩
theorem HfOwn.at_ {H J : AHeap} {y : Hf} (h : HfOwn H J y) : HfAt J y := h.nw.at_
theorem HfOwn.pre {H J K : AHeap} {y : Hf} (h : HfOwn H J y) (k : Pre J K) : HfOwn H K y := by
  obtain ⟨id, h1, h2, h3⟩ := h.own
  exact ⟨h.few, h.rng, id, h1, h2, k.get h3⟩
theorem run28 {t : Tm} (H : AHeap) : ev kk 28 [.agg (trow t)] H = some (.agg (trow t), H) := by
  rw [ev_call c28]; unfold k28; rw [evB_eq rfl]
  simp (maxSteps := 4000000) (disch := first | omega | (refine _root_.id ?_; simp only [pl_int, pl_bool, pl_str, pl_undef, pl_nil, pl_ptr, plA_c, plA_agg, plA_tup, plV_c, plV_agg, List.all_cons, List.all_nil, Bool.and_true, Bool.and_self, eq_self, vi_int, vi_bool, get_app, get_app0, List.getElem?_cons_zero, List.getElem?_cons_succ, Option.join_some, lst_get, getL, upd_at, upd_ne, Nat.reduceBEq])) only [evC_skip, evC_exit, evC_ret, evC_region, evC_seq, evC_block, ev_t, ev_k, putS_some, upd_l, putS_none, ops_nil, ops_pick, pick_bool, ops_consg, guard_bool, evC_condC, cond_bool, ops_cons, next_some, next_none, next_ite, nextD_some, nextD_none, nextD_ite, bind_ite, map_ite, then_ite, then_norm, then_ret, then_exit, out_ite, out_norm, out_ret, out_exit, done_ite, done_norm, done_ret, putL, getL, Option.bind_some, Option.map_some, Option.bind_none, Option.map_none, evalOp, AV.cells?, readCells, readCell, writeCells, get_app, get_app0, set_app, set_app0, len_app, List.getElem?_cons_zero, List.getElem?_cons_succ, Option.join_some, List.length_cons, List.length_nil, List.append_assoc, List.cons_append, List.nil_append, Nat.zero_add, Nat.add_zero, Nat.reduceAdd, Nat.reduceLeDiff, Nat.reduceLT, Nat.reduceMul, Nat.reduceSub, List.drop_zero, List.drop_succ_cons, List.take_zero, List.take_succ_cons, List.take_nil, List.drop_nil, if_true, if_false, ite_true, ite_false, ite_self, ↓reduceIte, reduceCtorEq, binA, binC, intBin, or_false, false_or, or_true, true_or, and_true, true_and, Int.reduceLT, Int.reduceLE, Int.reduceToNat, Int.reduceAdd, evalRs, evalR, AV.toV0?, mkRes, V0.toAV, decide_true, decide_false, and_self, Nat.reduceEqDiff, lst_get, Int.cast_ofNat_Int, eq_self, IntWalk.i64_in, IntWalk.i16_in, IntWalk.i32_in, IntWalk.i8_in, IntWalk.u8_in, Int.reduceNeg, finish_app, finish_id, pl_int, pl_bool, pl_str, pl_undef, pl_nil, pl_ptr, plA_c, plA_agg, plA_tup, plV_c, plV_agg, List.all_cons, List.all_nil, Bool.and_true, Bool.true_and, decide_eq_true_eq, decide_eq_false_iff_not, beq_self_eq_true, Bool.not_true, Bool.not_false, Bool.true_eq_false, Bool.false_eq_true, List.map_cons, List.map_nil, List.append_nil, setAt, CV.ok, eqRes, bne_self_eq_false, List.set_cons_zero, List.set_cons_succ, evC_drawn, dr_nil, dr_cons, chk_nil, chk_cons, re_same, unA, Bool.not_eq_true', Bool.not_eq_eq_eq_not, Bool.not_not, Int.zero_add, List.getElem?_nil, partsA, fillC, Int.reduceEq, Int.reduceMul, Int.reduceSub, Int.reduceTDiv, Int.reduceTMod, List.flatten_cons, List.flatten_nil, finish_no, tdiv_pos, tmod_pos, Int.reduceDiv, Int.reduceMod, len_add, vi_int, vi_bool, Int.reduceBNe, Int.reduceBEq, Nat.reduceBEq, Nat.reduceBNe, post_some, post_ite, ite_ex, upd_at, upd_ne, cast_nonneg, cast_toNat, Nat.mul_one, false_implies, true_implies, implies_true, chkg_bool, chk_consg, guard_undef]
abbrev tyTamper : Ty := .st [.int .i8, .int .i8, .int .i16, .int .i16]
theorem tamper_inv {H : AHeap} {p : List CV} (h : ArgOk H tyTamper p) : ∃ t : Tm, p = trow t ∧ rngT t := by
  obtain ⟨_, r, rfl, h1, h2⟩ := h.st_cons
  obtain ⟨_, r, rfl, h3, h4⟩ := h2.st_cons
  obtain ⟨_, r, rfl, h5, h6⟩ := h4.st_cons
  obtain ⟨_, r, rfl, h7, h8⟩ := h6.st_cons
  obtain rfl := h8.st_nil
  obtain ⟨k, rfl, hk⟩ := h1.int_inv
  obtain ⟨a, rfl, ha⟩ := h3.int_inv
  obtain ⟨b, rfl, hb⟩ := h5.int_inv
  obtain ⟨c, rfl, hc⟩ := h7.int_inv
  simp [Lit.wf, IntKind.min, IntKind.max, IntKind.bits, IntKind.signed] at hk ha hb hc
  exact ⟨⟨k, a, b, c⟩, rfl, ⟨by dsimp only; omega, by dsimp only; omega⟩, by dsimp only; omega, by dsimp only; omega⟩
end Go.Proofs.YtcfabmmonoljeaaDoor
