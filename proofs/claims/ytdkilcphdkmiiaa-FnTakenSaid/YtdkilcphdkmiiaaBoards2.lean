/- What functions of the program answer: part Boards2. -/
import Derived.Test.YtdkilcphdkmiiaaBoards
set_option linter.unusedVariables false
set_option linter.unusedSimpArgs false
set_option linter.unusedSectionVars false
namespace Go.Proofs.Ytdkilcphdkmiiaa
open Go Go.Proofs.Ytdkilcphdkmiiaa.VI
set_option maxHeartbeats 8000000
set_option maxRecDepth 50000
theorem bts_inv {H : AHeap} {c : CV} {elems : List (List CV)} (h : Slc H c elems) (he : ∀ p ∈ elems, p.length = 1 ∧ ArgOk H (.int .u8) p) : ∃ l, Bts H c l ∧ ∀ x ∈ l, 0 ≤ x ∧ x ≤ 255 := by
  obtain ⟨xs, rfl, hr⟩ := elems_map (f := fun x => [CV.int .u8 x]) (ok := fun x => 0 ≤ x ∧ x ≤ 255) (fun p hp => by
    obtain ⟨n, rfl, hn⟩ := hp.int_inv
    refine ⟨n, rfl, ?_⟩
    simp [Lit.wf, IntKind.min, IntKind.max, IntKind.bits, IntKind.signed] at hn
    omega) (fun p hp => (he p hp).2)
  have hf : ∀ ys : List Int, (ys.map fun x => [CV.int .u8 x]).flatten = ys.map (CV.int .u8) := by
    intro ys
    induction ys with
    | nil => rfl
    | cons x xs ih => simp only [List.map_cons, List.flatten_cons, ih, List.cons_append, List.nil_append]
  refine ⟨xs, ?_, hr⟩
  rcases h with ⟨rfl, h⟩ | ⟨id, t, rfl, h⟩
  · have : xs = [] := by simpa using h
    subst this
    exact .inl ⟨rfl, rfl⟩
  · refine .inr ⟨id, t, by simp, fun h0 => ?_⟩
    rw [← hf]; exact h (by simpa using h0)
theorem Bts.shape {H : AHeap} {c : CV} {l : List Int} (h : Bts H c l) : ∃ p cap, c = .slice p l.length cap := by
  rcases h with ⟨rfl, rfl⟩ | ⟨id, t, rfl, _⟩
  · exact ⟨_, _, rfl⟩
  · exact ⟨_, _, rfl⟩
theorem few_pk {l : List Int} (hl : ∀ x ∈ l, 0 ≤ x ∧ x ≤ 255) (t0 t1 t2 t3 t4 t5 s0 s1 s2 s3 s4 s5 : Int) : few (pk l t0 s0) (pk l t1 s1) (pk l t2 s2) (pk l t3 s3) (pk l t4 s4) (pk l t5 s5) := ⟨pk_b hl _ _, pk_b hl _ _, pk_b hl _ _, pk_b hl _ _, pk_b hl _ _, pk_b hl _ _⟩
theorem run7 {H : AHeap} {cs cs' : CV} {l l' : List Int} (hc : Bts H cs l) (hc' : Bts H cs' l') (hl : ∀ x ∈ l, 0 ≤ x ∧ x ≤ 255) (hl' : ∀ x ∈ l', 0 ≤ x ∧ x ≤ 255) : ev kk 7 [.c cs, .c cs'] H = some (.c (.bool true), H) := by
  have hlong : ev kk 25 [.c cs, .c cs'] H = some (.c (.bool (decide (3000 < l.length ∨ 3000 < l'.length))), H) := by
    obtain ⟨p, c, rfl⟩ := hc.shape
    obtain ⟨p', c', rfl⟩ := hc'.shape
    exact run25 H
  by_cases hb : 3000 < l.length ∨ 3000 < l'.length
  · rw [decide_eq_true hb] at hlong
    rw [ev_call c7]; unfold k7; rw [evB_eq rfl]
    simp only [evC_skip, evC_exit, evC_ret, evC_region, evC_seq, evC_block, ev_t, ev_k, putS_some, upd_l, putS_none, ops_nil, ops_pick, pick_bool, ops_consg, guard_bool, evC_condC, cond_bool, evC_loop, ops_cons, next_some, next_none, next_ite, nextD_some, nextD_none, nextD_ite, bind_ite, map_ite, then_ite, then_norm, then_ret, then_exit, out_ite, out_norm, out_ret, out_exit, done_ite, done_norm, done_ret, putL, getL, Option.bind_some, Option.map_some, Option.bind_none, Option.map_none, evalOp, AV.cells?, readCells, readCell, writeCells, get_app, get_app0, set_app, set_app0, len_app, List.getElem?_cons_zero, List.getElem?_cons_succ, Option.join_some, List.length_cons, List.length_nil, List.append_assoc, List.cons_append, List.nil_append, Nat.zero_add, Nat.add_zero, Nat.reduceAdd, Nat.reduceLeDiff, Nat.reduceLT, Nat.reduceMul, Nat.reduceSub, List.drop_zero, List.drop_succ_cons, List.take_zero, List.take_succ_cons, List.take_nil, List.drop_nil, if_true, if_false, ite_true, ite_false, ite_self, ↓reduceIte, reduceCtorEq, binA, binC, intBin, or_false, false_or, or_true, true_or, and_true, true_and, Int.reduceLT, Int.reduceLE, Int.reduceToNat, Int.reduceAdd, evalRs, evalR, AV.toV0?, mkRes, V0.toAV, decide_true, decide_false, and_self, Nat.reduceEqDiff, lst_get, Int.cast_ofNat_Int, eq_self, IntWalk.i64_in, IntWalk.i16_in, IntWalk.i32_in, IntWalk.i8_in, IntWalk.u8_in, Int.reduceNeg, finish_app, finish_id, pl_int, pl_bool, pl_str, pl_undef, pl_nil, pl_ptr, plA_c, plA_agg, plA_tup, plV_c, plV_agg, List.all_cons, List.all_nil, Bool.and_true, Bool.true_and, decide_eq_true_eq, decide_eq_false_iff_not, beq_self_eq_true, Bool.not_true, Bool.not_false, Bool.true_eq_false, Bool.false_eq_true, List.map_cons, List.map_nil, List.append_nil, setAt, CV.ok, eqRes, bne_self_eq_false, List.set_cons_zero, List.set_cons_succ, evC_drawn, dr_nil, dr_cons, chk_nil, chk_cons, re_same, unA, Bool.not_eq_true', Bool.not_eq_eq_eq_not, Bool.not_not, Int.zero_add, List.getElem?_nil, partsA, fillC, Int.reduceEq, Int.reduceMul, Int.reduceSub, Int.reduceTDiv, Int.reduceTMod, List.flatten_cons, List.flatten_nil, finish_no, tdiv_pos, tmod_pos, Int.reduceDiv, Int.reduceMod, len_add, vi_int, vi_bool, Int.reduceBNe, Int.reduceBEq, Nat.reduceBEq, Nat.reduceBNe, hlong]
  · rw [decide_eq_false hb] at hlong
    exact run7b hc hc' hl hl' (few_pk hl _ _ _ _ _ _ _ _ _ _ _ _) (fun T => run26 (hc.app T) hl) (few_pk hl' _ _ _ _ _ _ _ _ _ _ _ _) (fun T => run26 (hc'.app T) hl') hlong
theorem law7 (H : AHeap) (vs : List AV) (h : ArgsOk H [.sl 1 1 (.int .u8), .sl 1 1 (.int .u8)] vs) : ∃ H', ev kk 7 vs H = some (.c (.bool true), H') := by
  obtain ⟨a, vs0, rfl, h1, h2⟩ := h.cons_inv
  obtain ⟨a', vs1, rfl, h3, h4⟩ := h2.cons_inv
  obtain rfl := h4.nil_inv
  obtain ⟨c, elems, rfl, h5, h6, _⟩ := h1.sl_inv
  obtain ⟨c', elems', rfl, h7, h8, _⟩ := h3.sl_inv
  obtain ⟨l, hb, hl⟩ := bts_inv h5 h6
  obtain ⟨l', hb', hl'⟩ := bts_inv h7 h8
  exact ⟨H, run7 hb hb' hl hl'⟩
end Go.Proofs.Ytdkilcphdkmiiaa
