/- What functions of the program answer: part Grains. -/
import Derived.Test.YtlidldkelkihlaaLies2
import Derived.Test.YtlidldkelkihlaaViApp
set_option linter.unusedVariables false
set_option linter.unusedSimpArgs false
set_option linter.unusedSectionVars false
namespace Go.Proofs.Ytlidldkelkihlaa
open Go Go.Proofs.Ytlidldkelkihlaa.VI
set_option maxHeartbeats 16000000
set_option maxRecDepth 20000
abbrev irow (xs : List Int) : List CV := xs.map (CV.int .i64)
/-! Worn places -/
def wq (g f : List Int) (i : Nat) : Bool := IntKind.i8.wrap (g.getD i 0 + f.getD i 0) != 0
def wr (g f : List Int) (i n : Nat) : List Int := ((List.range' i n).filter (wq g f)).map fun j : Nat => (j : Int)
theorem wr_step {g f : List Int} {i n : Nat} : wr g f i (n + 1) = if wq g f i = true then (i : Int) :: wr g f (i + 1) n else wr g f (i + 1) n := by
  unfold wr
  rw [List.range'_succ, List.filter_cons]
  split <;> simp
theorem wr_len {g f : List Int} {i n : Nat} : (wr g f i n).length ≤ n := by
  unfold wr
  rw [List.length_map]
  exact Nat.le_trans (List.length_filter_le _ _) (by simp)
theorem loop83 {g f : List Int} (hg : g.length = 16) (hf : f.length = 16) {H : AHeap} {b c : Nat} {e e' : TypeId} {m m' : BM} (hb : H.get b = some ⟨e, grow g, m⟩) (hc : H.get c = some ⟨e', grow f, m'⟩) : ∀ (n i : Nat) (_ : i + n = 16) (ws : List Int) (_ : ws.length ≤ i) (T : List (Option Blk)) (v : AV) (_ : OutS 2 1 H.length T ws.length (irow ws) v) (σ : Sl) (_ : σ 2 = .c (.ptr (some (b, 0)))) (_ : σ 3 = .c (.ptr (some (c, 0)))) (_ : σ 5 = v) (_ : σ 8 = .c (.int .i64 i)),
    Post (evC (ev kk) (.loop l83_0) (σ, H ++ T)) fun ex σ' H' => ex = .exit 0 ∧ ∃ T', H' = H ++ T' ∧ OutS 2 1 H.length T' (ws ++ wr g f i n).length (irow (ws ++ wr g f i n)) (σ' 5)
  | 0, i, hi, ws, hw, T, v, ho, σ, h2, h3, h5, h6 => by
    have hge : ¬ ((i : Int) < 16) := by omega
    rw [evC_loop]
    simp only [evC_skip, evC_exit, evC_ret, evC_region, evC_seq, evC_block, ev_t, ev_k, putS_some, upd_l, putS_none, ops_nil, ops_pick, pick_bool, ops_consg, guard_bool, evC_condC, cond_bool, ops_cons, next_some, next_none, next_ite, nextD_some, nextD_none, nextD_ite, bind_ite, map_ite, then_ite, then_norm, then_ret, then_exit, out_ite, out_norm, out_ret, out_exit, done_ite, done_norm, done_ret, putL, getL, Option.bind_some, Option.map_some, Option.bind_none, Option.map_none, evalOp, AV.cells?, readCells, readCell, writeCells, get_app, get_app0, set_app, set_app0, len_app, List.getElem?_cons_zero, List.getElem?_cons_succ, Option.join_some, List.length_cons, List.length_nil, List.append_assoc, List.cons_append, List.nil_append, Nat.zero_add, Nat.add_zero, Nat.reduceAdd, Nat.reduceLeDiff, Nat.reduceLT, Nat.reduceMul, Nat.reduceSub, List.drop_zero, List.drop_succ_cons, List.take_zero, List.take_succ_cons, List.take_nil, List.drop_nil, if_true, if_false, ite_true, ite_false, ite_self, ↓reduceIte, reduceCtorEq, binA, binC, intBin, or_false, false_or, or_true, true_or, and_true, true_and, Int.reduceLT, Int.reduceLE, Int.reduceToNat, Int.reduceAdd, evalRs, evalR, AV.toV0?, mkRes, V0.toAV, decide_true, decide_false, and_self, Nat.reduceEqDiff, lst_get, Int.cast_ofNat_Int, eq_self, IntWalk.i64_in, IntWalk.i16_in, IntWalk.i32_in, IntWalk.i8_in, IntWalk.u8_in, Int.reduceNeg, finish_app, finish_id, pl_int, pl_bool, pl_str, pl_undef, pl_nil, pl_ptr, plA_c, plA_agg, plA_tup, plV_c, plV_agg, List.all_cons, List.all_nil, Bool.and_true, Bool.true_and, decide_eq_true_eq, decide_eq_false_iff_not, beq_self_eq_true, Bool.not_true, Bool.not_false, Bool.true_eq_false, Bool.false_eq_true, List.map_cons, List.map_nil, List.append_nil, setAt, CV.ok, eqRes, bne_self_eq_false, List.set_cons_zero, List.set_cons_succ, evC_drawn, dr_nil, dr_cons, chk_nil, chk_cons, re_same, unA, Bool.not_eq_true', Bool.not_eq_eq_eq_not, Bool.not_not, Int.zero_add, List.getElem?_nil, partsA, fillC, Int.reduceEq, Int.reduceMul, Int.reduceSub, Int.reduceTDiv, Int.reduceTMod, List.flatten_cons, List.flatten_nil, finish_no, tdiv_pos, tmod_pos, Int.reduceDiv, Int.reduceMod, len_add, vi_int, vi_bool, Int.reduceBNe, Int.reduceBEq, Nat.reduceBEq, Nat.reduceBNe, post_some, post_ite, ite_ex, upd_at, upd_ne, cast_nonneg, cast_toNat, Nat.mul_one, false_implies, true_implies, implies_true, chkg_bool, chk_consg, guard_undef, l83_0, h2, h3, h5, h6, hge]
    refine ⟨T, rfl, ?_⟩
    have : wr g f i 0 = [] := rfl
    rw [this, List.append_nil]; exact ho
  | n + 1, i, hi, ws, hw, T, v, ho, σ, h2, h3, h5, h6 => by
    have hil : i < g.length := by omega
    have hjl : i < f.length := by omega
    have hlt : (i : Int) < 16 := by omega
    have hbl := get_some_lt hb
    have hcl := get_some_lt hc
    have e1 : g.getD i 0 = g[i] := by rw [List.getD_eq_getElem?_getD, List.getElem?_eq_getElem hil]; rfl
    have e2 : f.getD i 0 = f[i] := by rw [List.getD_eq_getElem?_getD, List.getElem?_eq_getElem hjl]; rfl
    rw [evC_loop, wr_step]
    by_cases hq : wq g f i = true
    · have hq' : (IntKind.i8.wrap (g[i] + f[i]) != 0) = true := by unfold wq at hq; rw [e1, e2] at hq; exact hq
      have hoT : OutS 2 1 H.length (T ++ [some ⟨2, [.int .i64 i], .own⟩]) ws.length (irow ws) v := by
        rcases ho with h | ⟨h1, h2, k, h3, h4⟩
        · exact .inl h
        · exact .inr ⟨h1, h2, k, h3, by rw [List.getElem?_append_left (List.getElem?_eq_some_iff.1 h4).1]; exact h4⟩
      obtain ⟨v', T', happ, ho'⟩ := hoT.step (bytes := 8) (j := H.length + T.length) (m := 1) (cs := [.int .i64 i]) (t := 2) (bm := .own) (cap := .exact 1) (by rw [get_app]; simp) (by omega) rfl (by omega) rfl
      simp (maxSteps := 4000000) (disch := first | omega | (refine _root_.id ?_; simp only [pl_int, pl_bool, pl_str, pl_undef, pl_nil, pl_ptr, plA_c, plA_agg, plA_tup, plV_c, plV_agg, List.all_cons, List.all_nil, Bool.and_true, Bool.and_self, eq_self, vi_int, vi_bool, get_app, get_app0, List.getElem?_cons_zero, List.getElem?_cons_succ, Option.join_some, lst_get, getL, upd_at, upd_ne, Nat.reduceBEq])) only [evC_skip, evC_exit, evC_ret, evC_region, evC_seq, evC_block, ev_t, ev_k, putS_some, upd_l, putS_none, ops_nil, ops_pick, pick_bool, ops_consg, guard_bool, evC_condC, cond_bool, ops_cons, next_some, next_none, next_ite, nextD_some, nextD_none, nextD_ite, bind_ite, map_ite, then_ite, then_norm, then_ret, then_exit, out_ite, out_norm, out_ret, out_exit, done_ite, done_norm, done_ret, putL, getL, Option.bind_some, Option.map_some, Option.bind_none, Option.map_none, evalOp, AV.cells?, readCells, readCell, writeCells, get_app, get_app0, set_app, set_app0, len_app, List.getElem?_cons_zero, List.getElem?_cons_succ, Option.join_some, List.length_cons, List.length_nil, List.append_assoc, List.cons_append, List.nil_append, Nat.zero_add, Nat.add_zero, Nat.reduceAdd, Nat.reduceLeDiff, Nat.reduceLT, Nat.reduceMul, Nat.reduceSub, List.drop_zero, List.drop_succ_cons, List.take_zero, List.take_succ_cons, List.take_nil, List.drop_nil, if_true, if_false, ite_true, ite_false, ite_self, ↓reduceIte, reduceCtorEq, binA, binC, intBin, or_false, false_or, or_true, true_or, and_true, true_and, Int.reduceLT, Int.reduceLE, Int.reduceToNat, Int.reduceAdd, evalRs, evalR, AV.toV0?, mkRes, V0.toAV, decide_true, decide_false, and_self, Nat.reduceEqDiff, lst_get, Int.cast_ofNat_Int, eq_self, IntWalk.i64_in, IntWalk.i16_in, IntWalk.i32_in, IntWalk.i8_in, IntWalk.u8_in, Int.reduceNeg, finish_app, finish_id, pl_int, pl_bool, pl_str, pl_undef, pl_nil, pl_ptr, plA_c, plA_agg, plA_tup, plV_c, plV_agg, List.all_cons, List.all_nil, Bool.and_true, Bool.true_and, decide_eq_true_eq, decide_eq_false_iff_not, beq_self_eq_true, Bool.not_true, Bool.not_false, Bool.true_eq_false, Bool.false_eq_true, List.map_cons, List.map_nil, List.append_nil, setAt, CV.ok, eqRes, bne_self_eq_false, List.set_cons_zero, List.set_cons_succ, evC_drawn, dr_nil, dr_cons, chk_nil, chk_cons, re_same, unA, Bool.not_eq_true', Bool.not_eq_eq_eq_not, Bool.not_not, Int.zero_add, List.getElem?_nil, partsA, fillC, Int.reduceEq, Int.reduceMul, Int.reduceSub, Int.reduceTDiv, Int.reduceTMod, List.flatten_cons, List.flatten_nil, finish_no, tdiv_pos, tmod_pos, Int.reduceDiv, Int.reduceMod, len_add, vi_int, vi_bool, Int.reduceBNe, Int.reduceBEq, Nat.reduceBEq, Nat.reduceBNe, post_some, post_ite, ite_ex, upd_at, upd_ne, cast_nonneg, cast_toNat, Nat.mul_one, false_implies, true_implies, implies_true, chkg_bool, chk_consg, guard_undef, l83_0, h2, h3, h5, h6, hlt, get_appl hbl, get_appl hcl, hb, hc, grow_get hil, grow_get hjl, hq', hq, happ]
      have e3 : ws ++ (i : Int) :: wr g f (i + 1) n = (ws ++ [(i : Int)]) ++ wr g f (i + 1) n := by simp
      rw [e3]
      refine loop83 hg hf hb hc n (i + 1) (by omega) (ws ++ [(i : Int)]) (by simp; omega) T' v' ?_ _ (by simp only [upd_at, upd_ne, Nat.reduceBEq, h2]) (by simp only [upd_at, upd_ne, Nat.reduceBEq, h3]) (by simp only [upd_at, upd_ne, Nat.reduceBEq]) (by simp only [upd_at, upd_ne, Nat.reduceBEq]; rfl)
      have e4 : irow (ws ++ [(i : Int)]) = irow ws ++ [.int .i64 i] := by simp [irow]
      rw [e4, List.length_append]; exact ho'
    · have hq' : (IntKind.i8.wrap (g[i] + f[i]) != 0) = false := by unfold wq at hq; rw [e1, e2] at hq; simpa using hq
      have hq : wq g f i = false := by simpa using hq
      simp (maxSteps := 4000000) (disch := first | omega | (refine _root_.id ?_; simp only [pl_int, pl_bool, pl_str, pl_undef, pl_nil, pl_ptr, plA_c, plA_agg, plA_tup, plV_c, plV_agg, List.all_cons, List.all_nil, Bool.and_true, Bool.and_self, eq_self, vi_int, vi_bool, get_app, get_app0, List.getElem?_cons_zero, List.getElem?_cons_succ, Option.join_some, lst_get, getL, upd_at, upd_ne, Nat.reduceBEq])) only [evC_skip, evC_exit, evC_ret, evC_region, evC_seq, evC_block, ev_t, ev_k, putS_some, upd_l, putS_none, ops_nil, ops_pick, pick_bool, ops_consg, guard_bool, evC_condC, cond_bool, ops_cons, next_some, next_none, next_ite, nextD_some, nextD_none, nextD_ite, bind_ite, map_ite, then_ite, then_norm, then_ret, then_exit, out_ite, out_norm, out_ret, out_exit, done_ite, done_norm, done_ret, putL, getL, Option.bind_some, Option.map_some, Option.bind_none, Option.map_none, evalOp, AV.cells?, readCells, readCell, writeCells, get_app, get_app0, set_app, set_app0, len_app, List.getElem?_cons_zero, List.getElem?_cons_succ, Option.join_some, List.length_cons, List.length_nil, List.append_assoc, List.cons_append, List.nil_append, Nat.zero_add, Nat.add_zero, Nat.reduceAdd, Nat.reduceLeDiff, Nat.reduceLT, Nat.reduceMul, Nat.reduceSub, List.drop_zero, List.drop_succ_cons, List.take_zero, List.take_succ_cons, List.take_nil, List.drop_nil, if_true, if_false, ite_true, ite_false, ite_self, ↓reduceIte, reduceCtorEq, binA, binC, intBin, or_false, false_or, or_true, true_or, and_true, true_and, Int.reduceLT, Int.reduceLE, Int.reduceToNat, Int.reduceAdd, evalRs, evalR, AV.toV0?, mkRes, V0.toAV, decide_true, decide_false, and_self, Nat.reduceEqDiff, lst_get, Int.cast_ofNat_Int, eq_self, IntWalk.i64_in, IntWalk.i16_in, IntWalk.i32_in, IntWalk.i8_in, IntWalk.u8_in, Int.reduceNeg, finish_app, finish_id, pl_int, pl_bool, pl_str, pl_undef, pl_nil, pl_ptr, plA_c, plA_agg, plA_tup, plV_c, plV_agg, List.all_cons, List.all_nil, Bool.and_true, Bool.true_and, decide_eq_true_eq, decide_eq_false_iff_not, beq_self_eq_true, Bool.not_true, Bool.not_false, Bool.true_eq_false, Bool.false_eq_true, List.map_cons, List.map_nil, List.append_nil, setAt, CV.ok, eqRes, bne_self_eq_false, List.set_cons_zero, List.set_cons_succ, evC_drawn, dr_nil, dr_cons, chk_nil, chk_cons, re_same, unA, Bool.not_eq_true', Bool.not_eq_eq_eq_not, Bool.not_not, Int.zero_add, List.getElem?_nil, partsA, fillC, Int.reduceEq, Int.reduceMul, Int.reduceSub, Int.reduceTDiv, Int.reduceTMod, List.flatten_cons, List.flatten_nil, finish_no, tdiv_pos, tmod_pos, Int.reduceDiv, Int.reduceMod, len_add, vi_int, vi_bool, Int.reduceBNe, Int.reduceBEq, Nat.reduceBEq, Nat.reduceBNe, post_some, post_ite, ite_ex, upd_at, upd_ne, cast_nonneg, cast_toNat, Nat.mul_one, false_implies, true_implies, implies_true, chkg_bool, chk_consg, guard_undef, l83_0, h2, h3, h5, h6, hlt, get_appl hbl, get_appl hcl, hb, hc, grow_get hil, grow_get hjl, hq', hq, Bool.false_eq_true]
      exact loop83 hg hf hb hc n (i + 1) (by omega) ws (by omega) T v ho _ (by simp only [upd_at, upd_ne, Nat.reduceBEq, h2]) (by simp only [upd_at, upd_ne, Nat.reduceBEq, h3]) (by simp only [upd_at, upd_ne, Nat.reduceBEq, h5]) (by simp only [upd_at, upd_ne, Nat.reduceBEq]; rfl)
theorem OutS.shift {e : TypeId} {s L n : Nat} {pre T : List (Option Blk)} {cells : List CV} {v : AV} (h : OutS e s (L + pre.length) T n cells v) : OutS e s L (pre ++ T) n cells v := by
  rcases h with h | ⟨h1, h2, k, h3, h4⟩
  · exact .inl h
  · exact .inr ⟨h1, h2, pre.length + k, by rw [h3, Nat.add_assoc], by rw [List.getElem?_append_right (by omega)]; simpa using h4⟩
theorem OutS.more {e : TypeId} {s L n : Nat} {T U : List (Option Blk)} {cells : List CV} {v : AV} (h : OutS e s L T n cells v) : OutS e s L (T ++ U) n cells v := by
  rcases h with h | ⟨h1, h2, k, h3, h4⟩
  · exact .inl h
  · exact .inr ⟨h1, h2, k, h3, by rw [List.getElem?_append_left (List.getElem?_eq_some_iff.1 h4).1]; exact h4⟩
abbrev gb (e : TypeId) (g : List Int) : Option Blk := some ⟨e, grow g, .own⟩
abbrev ws (g f : List Int) : List Int := wr g f 0 16
theorem run83 {g f : List Int} (hg : g.length = 16) (hf : f.length = 16) (H : AHeap) : ∃ T c, ev kk 83 [.agg (grow g), .agg (grow f)] H = some (.c c, H ++ T) ∧ OutS 2 1 H.length T (ws g f).length (irow (ws g f)) (.c c) := by
  obtain ⟨ex, σ', H', e, rfl, T', rfl, ho⟩ := loop83 hg hf (H := H ++ [gb 37 g, gb 37 f]) (b := H.length) (c := H.length + 1) (by rw [get_app0]; rfl) (by rw [get_app]; rfl) 16 0 rfl [] (by simp) [some ⟨2, [], .own⟩] (.c (.slice (some (H.length + 2, 0)) 0 (.exact 0))) (.inl ⟨rfl, rfl, _, rfl⟩)
    (lst [.agg (grow g), .agg (grow f), .c (.ptr (some (H.length, 0))), .c (.ptr (some (H.length + 1, 0))), .c (.slice none 0 (.exact 0)), .c (.slice (some (H.length + 2, 0)) 0 (.exact 0)), .c .undef, .c (.slice (some (H.length + 2, 0)) 0 (.exact 0)), .c (.int .i64 0)]) rfl rfl rfl rfl
  simp only [List.append_assoc, List.cons_append, List.nil_append] at e
  have hv : ∃ c, σ' 5 = .c c := by
    rcases ho with ⟨_, _, q, h⟩ | ⟨_, _, k, h, _⟩
    · exact ⟨_, h⟩
    · exact ⟨_, h⟩
  obtain ⟨c, hv⟩ := hv
  refine ⟨gb 37 g :: gb 37 f :: T', c, ?_, ?_⟩
  · rw [ev_call c83]; unfold k83; rw [evB_eq rfl]
    simp only [evC_skip, evC_exit, evC_ret, evC_region, evC_seq, evC_block, ev_t, ev_k, putS_some, upd_l, putS_none, ops_nil, ops_pick, pick_bool, ops_consg, guard_bool, evC_condC, cond_bool, ops_cons, next_some, next_none, next_ite, nextD_some, nextD_none, nextD_ite, bind_ite, map_ite, then_ite, then_norm, then_ret, then_exit, out_ite, out_norm, out_ret, out_exit, done_ite, done_norm, done_ret, putL, getL, Option.bind_some, Option.map_some, Option.bind_none, Option.map_none, evalOp, AV.cells?, readCells, readCell, writeCells, get_app, get_app0, set_app, set_app0, len_app, List.getElem?_cons_zero, List.getElem?_cons_succ, Option.join_some, List.length_cons, List.length_nil, List.append_assoc, List.cons_append, List.nil_append, Nat.zero_add, Nat.add_zero, Nat.reduceAdd, Nat.reduceLeDiff, Nat.reduceLT, Nat.reduceMul, Nat.reduceSub, List.drop_zero, List.drop_succ_cons, List.take_zero, List.take_succ_cons, List.take_nil, List.drop_nil, if_true, if_false, ite_true, ite_false, ite_self, ↓reduceIte, reduceCtorEq, binA, binC, intBin, or_false, false_or, or_true, true_or, and_true, true_and, Int.reduceLT, Int.reduceLE, Int.reduceToNat, Int.reduceAdd, evalRs, evalR, AV.toV0?, mkRes, V0.toAV, decide_true, decide_false, and_self, Nat.reduceEqDiff, lst_get, Int.cast_ofNat_Int, eq_self, IntWalk.i64_in, IntWalk.i16_in, IntWalk.i32_in, IntWalk.i8_in, IntWalk.u8_in, Int.reduceNeg, finish_app, finish_id, pl_int, pl_bool, pl_str, pl_undef, pl_nil, pl_ptr, plA_c, plA_agg, plA_tup, plV_c, plV_agg, List.all_cons, List.all_nil, Bool.and_true, Bool.true_and, decide_eq_true_eq, decide_eq_false_iff_not, beq_self_eq_true, Bool.not_true, Bool.not_false, Bool.true_eq_false, Bool.false_eq_true, List.map_cons, List.map_nil, List.append_nil, setAt, CV.ok, eqRes, bne_self_eq_false, List.set_cons_zero, List.set_cons_succ, evC_drawn, dr_nil, dr_cons, chk_nil, chk_cons, re_same, unA, Bool.not_eq_true', Bool.not_eq_eq_eq_not, Bool.not_not, Int.zero_add, List.getElem?_nil, partsA, fillC, Int.reduceEq, Int.reduceMul, Int.reduceSub, Int.reduceTDiv, Int.reduceTMod, List.flatten_cons, List.flatten_nil, finish_no, tdiv_pos, tmod_pos, Int.reduceDiv, Int.reduceMod, len_add, vi_int, vi_bool, Int.reduceBNe, Int.reduceBEq, Nat.reduceBEq, Nat.reduceBNe, post_some, post_ite, ite_ex, upd_at, upd_ne, cast_nonneg, cast_toNat, Nat.mul_one, false_implies, true_implies, implies_true, chkg_bool, chk_consg, guard_undef, e, hv]
  · rw [hv, List.length_append] at ho
    exact OutS.shift (pre := [gb 37 g, gb 37 f]) ho

/-! Whether grains fit -/
theorem OutS.isC {e : TypeId} {s L n : Nat} {T : List (Option Blk)} {cells : List CV} {v : AV} (h : OutS e s L T n cells v) : ∃ q cap, v = .c (.slice q n cap) := by
  rcases h with ⟨rfl, _, q, rfl⟩ | ⟨_, _, k, rfl, _⟩
  · exact ⟨_, _, rfl⟩
  · exact ⟨_, _, rfl⟩
/-! Whether halves fit -/
end Go.Proofs.Ytlidldkelkihlaa
