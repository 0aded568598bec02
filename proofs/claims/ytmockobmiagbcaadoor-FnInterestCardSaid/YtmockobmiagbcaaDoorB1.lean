/- What functions of the program answer: part B1. -/
import Derived.Test.YtmockobmiagbcaaDoorA5
import Derived.Test.YtmockobmiagbcaaDoorL3
set_option linter.unusedVariables false
set_option linter.unusedSimpArgs false
set_option linter.unusedSectionVars false
namespace Go.Proofs.YtmockobmiagbcaaDoor
open Go Go.Proofs.YtmockobmiagbcaaDoor.VI
set_option maxHeartbeats 16000000
set_option maxRecDepth 20000
/-! The program reads a loan: its numbers -/
theorem cut_len {s t : List UInt8} : (cutL s t).1.length ≤ s.length ∧ (cutL s t).2.1.length ≤ s.length := by
  unfold cutL
  split
  · simp
  · simp only [List.length_take, List.length_drop]; omega
theorem run30 {s t : List UInt8} (h : s.length < 4294967281) (H : AHeap) : ev kk 30 [.c (.str ⟨s.toArray⟩), .c (.str ⟨t.toArray⟩)] H = some (.tup [.c (.str ⟨(cutL s t).1.toArray⟩), .c (.str ⟨(cutL s t).2.1.toArray⟩), .c (.bool (cutL s t).2.2)], H) := by
  have := ev_nat (K := kk) (f := 30) c30 (args := [.c (.str ⟨s.toArray⟩), .c (.str ⟨t.toArray⟩)]) rfl rfl (H := H) (H' := H) (vs := [.c (.str ⟨(cutL s t).1.toArray⟩), .c (.str ⟨(cutL s t).2.1.toArray⟩), .c (.bool (cutL s t).2.2)]) (by
    unfold cutA
    simp only [List.toList_toArray, bsize]
    rw [if_pos h]) rfl
  exact this
abbrev ints (xs : List Int) : List CV := xs.map (CV.int .i64)
theorem set_ints {xs : List Int} {k : Nat} {y : Int} (h : k < xs.length) : setAt (ints xs) k [.int .i64 y] = ints (xs.set k y) := by
  unfold setAt ints
  rw [List.map_set, List.set_eq_take_append_cons_drop, if_pos (by simpa using h)]
  simp
theorem write_ints {J : AHeap} {b k : Nat} {e : TypeId} {xs : List Int} {y : Int} (hb : J.get b = some ⟨e, ints xs, .own⟩) (hk : k < xs.length) (hy : -9223372036854775808 ≤ y ∧ y ≤ 9223372036854775807) : writeCells J (b, k) [.int .i64 y] = some (J.set b (some ⟨e, ints (xs.set k y), .own⟩)) := by
  have h1 : (ints xs).length = xs.length := by simp [ints]
  have h2 : ([CV.int .i64 y]).all CV.ok = true := by simp [CV.ok, IntWalk.i64_in, hy]
  unfold writeCells
  simp only [hb, h1, List.length_cons, List.length_nil, h2]
  rw [if_pos ⟨by omega, trivial⟩, set_ints hk]
theorem write_zero {J : AHeap} {b : Nat} {e : TypeId} {xs : List CV} (hb : J.get b = some ⟨e, xs, .own⟩) (hk : xs.length = 5) : writeCells J (b, 0) [.int .i64 0, .int .i64 0, .int .i64 0, .int .i64 0, .int .i64 0] = some (J.set b (some ⟨e, ints [0, 0, 0, 0, 0], .own⟩)) := by
  have h3 : setAt xs 0 [CV.int .i64 0, .int .i64 0, .int .i64 0, .int .i64 0, .int .i64 0] = ints [0, 0, 0, 0, 0] := by
    unfold setAt
    rw [List.take_zero, List.drop_of_length_le (by simp; omega)]; rfl
  unfold writeCells
  simp only [hb, hk, h3]
  rfl
noncomputable def fillF (xs : List Int) (i : Nat) : List (List UInt8) → List Int
  | [] => xs
  | w :: ws => fillF (xs.set (i + 1) (numR 9 w).1) (i + 1) ws
noncomputable def allN (ws : List (List UInt8)) : Bool := ws.all fun w => (numR 9 w).2
theorem allN_step {ws : List (List UInt8)} {i : Nat} (h : i < ws.length) : allN (ws.drop i) = ((numR 9 (ws[i]'h)).2 && allN (ws.drop (i + 1))) := by
  rw [List.drop_eq_getElem_cons h]; unfold allN; rw [List.all_cons]
theorem fill_step {ws : List (List UInt8)} {xs : List Int} {i : Nat} (h : i < ws.length) : fillF xs i (ws.drop i) = fillF (xs.set (i + 1) (numR 9 (ws[i]'h)).1) (i + 1) (ws.drop (i + 1)) := by
  rw [List.drop_eq_getElem_cons h]; rfl
theorem loop10 {ws : List (List UInt8)} {ps : List CV} (hw : ws.length ≤ 4) {G : AHeap} {b r pid wid : Nat} {e e' : TypeId} {m m' : BM} {cp cp' : Cap} {cs : List CV}
    (hp : ∀ i, i < ws.length → ps[i]? = some (.ptr (some (b, i + 1)))) (hpl : ps.length = ws.length) (hbp : b ≠ pid) (hbw : b ≠ wid) (hbr : b ≠ r) (hGb : G.length ≤ b) (hGr : G.length ≤ r) (hcs : cs.length = 5) : ∀ (n i : Nat) (_ : i + n = ws.length) (J : AHeap) (_ : Pre G J) (_ : J.get pid = some ⟨e', ps, m'⟩) (_ : J.get wid = some ⟨e, strs ws, m⟩) (_ : J.get r = some ⟨27, cs, .own⟩) (xs : List Int) (_ : xs.length = 5) (_ : J.get b = some ⟨27, ints xs, .own⟩) (σ : Sl)
    (_ : σ 2 = .c (.ptr (some (r, 0)))) (_ : σ 19 = .c (.slice (some (pid, 0)) ws.length cp)) (_ : σ 90 = .c (.slice (some (wid, 0)) ws.length cp')) (_ : σ 91 = .c (.int .i64 ws.length)) (_ : σ 92 = .c (.int .i64 i)),
    Post (evC (ev kk) (.loop l10_0) (σ, J)) fun ex σ' H' => ex = (if allN (ws.drop i) = true then .exit 0 else .ret) ∧ Pre G H' ∧ (allN (ws.drop i) = true → H'.get b = some ⟨27, ints (fillF xs i (ws.drop i)), .own⟩ ∧ H'.get r = some ⟨27, cs, .own⟩ ∧ σ' 0 = σ 0 ∧ σ' 18 = σ 18) ∧ σ' 2 = σ 2 ∧ (allN (ws.drop i) = false → H'.get r = some ⟨27, ints [0, 0, 0, 0, 0], .own⟩ ∧ σ' 3 = .c (.int .i64 5))
  | 0, i, hi, J, hJ, hgp, hgw, hgr, xs, hx, hgb, σ, h2, h19, h90, h91, h92 => by
    have hge : ¬ ((i : Int) < (ws.length : Int)) := by omega
    have hd : ws.drop i = [] := List.drop_eq_nil_of_le (by omega)
    have e1 : allN [] = true := rfl
    have e2 : fillF xs i [] = xs := rfl
    rw [evC_loop, hd, e1, e2]
    simp only [evC_skip, evC_exit, evC_ret, evC_region, evC_seq, evC_block, ev_t, ev_k, putS_some, upd_l, putS_none, ops_nil, ops_pick, pick_bool, ops_consg, guard_bool, evC_condC, cond_bool, ops_cons, next_some, next_none, next_ite, nextD_some, nextD_none, nextD_ite, bind_ite, map_ite, then_ite, then_norm, then_ret, then_exit, out_ite, out_norm, out_ret, out_exit, done_ite, done_norm, done_ret, putL, getL, Option.bind_some, Option.map_some, Option.bind_none, Option.map_none, evalOp, AV.cells?, readCells, readCell, writeCells, get_app, get_app0, set_app, set_app0, len_app, List.getElem?_cons_zero, List.getElem?_cons_succ, Option.join_some, List.length_cons, List.length_nil, List.append_assoc, List.cons_append, List.nil_append, Nat.zero_add, Nat.add_zero, Nat.reduceAdd, Nat.reduceLeDiff, Nat.reduceLT, Nat.reduceMul, Nat.reduceSub, List.drop_zero, List.drop_succ_cons, List.take_zero, List.take_succ_cons, List.take_nil, List.drop_nil, if_true, if_false, ite_true, ite_false, ite_self, ↓reduceIte, reduceCtorEq, binA, binC, intBin, or_false, false_or, or_true, true_or, and_true, true_and, Int.reduceLT, Int.reduceLE, Int.reduceToNat, Int.reduceAdd, evalRs, evalR, AV.toV0?, mkRes, V0.toAV, decide_true, decide_false, and_self, Nat.reduceEqDiff, lst_get, Int.cast_ofNat_Int, eq_self, IntWalk.i64_in, IntWalk.i16_in, IntWalk.i32_in, IntWalk.i8_in, IntWalk.u8_in, Int.reduceNeg, finish_app, finish_id, pl_int, pl_bool, pl_str, pl_undef, pl_nil, pl_ptr, plA_c, plA_agg, plA_tup, plV_c, plV_agg, List.all_cons, List.all_nil, Bool.and_true, Bool.true_and, decide_eq_true_eq, decide_eq_false_iff_not, beq_self_eq_true, Bool.not_true, Bool.not_false, Bool.true_eq_false, Bool.false_eq_true, List.map_cons, List.map_nil, List.append_nil, setAt, CV.ok, eqRes, bne_self_eq_false, List.set_cons_zero, List.set_cons_succ, evC_drawn, dr_nil, dr_cons, chk_nil, chk_cons, re_same, unA, Bool.not_eq_true', Bool.not_eq_eq_eq_not, Bool.not_not, Int.zero_add, List.getElem?_nil, partsA, fillC, Int.reduceEq, Int.reduceMul, Int.reduceSub, Int.reduceTDiv, Int.reduceTMod, List.flatten_cons, List.flatten_nil, finish_no, tdiv_pos, tmod_pos, Int.reduceDiv, Int.reduceMod, len_add, vi_int, vi_bool, Int.reduceBNe, Int.reduceBEq, Nat.reduceBEq, Nat.reduceBNe, post_some, post_ite, ite_ex, upd_at, upd_ne, cast_nonneg, cast_toNat, Nat.mul_one, false_implies, true_implies, implies_true, chkg_bool, chk_consg, guard_undef, l10_0, h2, h19, h90, h91, h92, hge, hgb, hgr]
    exact hJ
  | n + 1, i, hi, J, hJ, hgp, hgw, hgr, xs, hx, hgb, σ, h2, h19, h90, h91, h92 => by
    have hil : i < ws.length := by omega
    have hlt : (i : Int) < (ws.length : Int) := by omega
    have hst := allN_step hil
    have hfl := fill_step (xs := xs) hil
    have hsg := strs_get hil
    have hll : (strs ws).length = ws.length := by simp [strs]
    have hpi := hp i hil
    obtain ⟨w, hwe⟩ : ∃ w, w = ws[i]'hil := ⟨_, rfl⟩
    rw [← hwe] at hst hfl hsg
    have r32 := run32 (s := w) J
    have hlt9 := numR_lt9 (w := w)
    generalize numR 9 w = R at *
    obtain ⟨N, B⟩ := R
    simp only at hst hfl r32 hlt9
    rw [evC_loop, hst, hfl]
    cases B
    · have hz := write_zero hgr hcs
      simp only [Bool.false_and, Bool.false_eq_true, if_false]
      simp (maxSteps := 4000000) (disch := first | omega | (refine _root_.id ?_; simp only [pl_int, pl_bool, pl_str, pl_undef, pl_nil, pl_ptr, plA_c, plA_agg, plA_tup, plV_c, plV_agg, List.all_cons, List.all_nil, Bool.and_true, Bool.and_self, eq_self, vi_int, vi_bool, get_app, get_app0, List.getElem?_cons_zero, List.getElem?_cons_succ, Option.join_some, lst_get, getL, upd_at, upd_ne, Nat.reduceBEq])) only [evC_skip, evC_exit, evC_ret, evC_region, evC_seq, evC_block, ev_t, ev_k, putS_some, upd_l, putS_none, ops_nil, ops_pick, pick_bool, ops_consg, guard_bool, evC_condC, cond_bool, ops_cons, next_some, next_none, next_ite, nextD_some, nextD_none, nextD_ite, bind_ite, map_ite, then_ite, then_norm, then_ret, then_exit, out_ite, out_norm, out_ret, out_exit, done_ite, done_norm, done_ret, putL, getL, Option.bind_some, Option.map_some, Option.bind_none, Option.map_none, evalOp, AV.cells?, readCells, readCell, get_app, get_app0, set_app, set_app0, len_app, List.getElem?_cons_zero, List.getElem?_cons_succ, Option.join_some, List.length_cons, List.length_nil, List.append_assoc, List.cons_append, List.nil_append, Nat.zero_add, Nat.add_zero, Nat.reduceAdd, Nat.reduceLeDiff, Nat.reduceLT, Nat.reduceMul, Nat.reduceSub, List.drop_zero, List.drop_succ_cons, List.take_zero, List.take_succ_cons, List.take_nil, List.drop_nil, if_true, if_false, ite_true, ite_false, ite_self, ↓reduceIte, reduceCtorEq, binA, binC, intBin, or_false, false_or, or_true, true_or, and_true, true_and, Int.reduceLT, Int.reduceLE, Int.reduceToNat, Int.reduceAdd, evalRs, evalR, AV.toV0?, mkRes, V0.toAV, decide_true, decide_false, and_self, Nat.reduceEqDiff, lst_get, Int.cast_ofNat_Int, eq_self, IntWalk.i64_in, IntWalk.i16_in, IntWalk.i32_in, IntWalk.i8_in, IntWalk.u8_in, Int.reduceNeg, finish_app, finish_id, pl_int, pl_bool, pl_str, pl_undef, pl_nil, pl_ptr, plA_c, plA_agg, plA_tup, plV_c, plV_agg, List.all_cons, List.all_nil, Bool.and_true, Bool.true_and, decide_eq_true_eq, decide_eq_false_iff_not, beq_self_eq_true, Bool.not_true, Bool.not_false, Bool.true_eq_false, Bool.false_eq_true, List.map_cons, List.map_nil, List.append_nil, setAt, CV.ok, eqRes, bne_self_eq_false, List.set_cons_zero, List.set_cons_succ, evC_drawn, dr_nil, dr_cons, chk_nil, chk_cons, re_same, unA, Bool.not_eq_true', Bool.not_eq_eq_eq_not, Bool.not_not, Int.zero_add, List.getElem?_nil, partsA, fillC, Int.reduceEq, Int.reduceMul, Int.reduceSub, Int.reduceTDiv, Int.reduceTMod, List.flatten_cons, List.flatten_nil, finish_no, tdiv_pos, tmod_pos, Int.reduceDiv, Int.reduceMod, len_add, vi_int, vi_bool, Int.reduceBNe, Int.reduceBEq, Nat.reduceBEq, Nat.reduceBNe, post_some, post_ite, ite_ex, upd_at, upd_ne, cast_nonneg, cast_toNat, Nat.mul_one, false_implies, true_implies, implies_true, chkg_bool, chk_consg, guard_undef, l10_0, h2, h19, h90, h91, h92, hlt, hgw, hsg, hll, hpl, hpi, r32, hz]
      exact ⟨hJ.set hGr, get_set (get_some_lt hgr)⟩
    · have hwr := write_ints (k := i + 1) (y := (N : Int)) hgb (by omega) (by have := hlt9 rfl; omega)
      simp only [Bool.true_and]
      simp (maxSteps := 4000000) (disch := first | omega | (refine _root_.id ?_; simp only [pl_int, pl_bool, pl_str, pl_undef, pl_nil, pl_ptr, plA_c, plA_agg, plA_tup, plV_c, plV_agg, List.all_cons, List.all_nil, Bool.and_true, Bool.and_self, eq_self, vi_int, vi_bool, get_app, get_app0, List.getElem?_cons_zero, List.getElem?_cons_succ, Option.join_some, lst_get, getL, upd_at, upd_ne, Nat.reduceBEq])) only [evC_skip, evC_exit, evC_ret, evC_region, evC_seq, evC_block, ev_t, ev_k, putS_some, upd_l, putS_none, ops_nil, ops_pick, pick_bool, ops_consg, guard_bool, evC_condC, cond_bool, ops_cons, next_some, next_none, next_ite, nextD_some, nextD_none, nextD_ite, bind_ite, map_ite, then_ite, then_norm, then_ret, then_exit, out_ite, out_norm, out_ret, out_exit, done_ite, done_norm, done_ret, putL, getL, Option.bind_some, Option.map_some, Option.bind_none, Option.map_none, evalOp, AV.cells?, readCells, readCell, get_app, get_app0, set_app, set_app0, len_app, List.getElem?_cons_zero, List.getElem?_cons_succ, Option.join_some, List.length_cons, List.length_nil, List.append_assoc, List.cons_append, List.nil_append, Nat.zero_add, Nat.add_zero, Nat.reduceAdd, Nat.reduceLeDiff, Nat.reduceLT, Nat.reduceMul, Nat.reduceSub, List.drop_zero, List.drop_succ_cons, List.take_zero, List.take_succ_cons, List.take_nil, List.drop_nil, if_true, if_false, ite_true, ite_false, ite_self, ↓reduceIte, reduceCtorEq, binA, binC, intBin, or_false, false_or, or_true, true_or, and_true, true_and, Int.reduceLT, Int.reduceLE, Int.reduceToNat, Int.reduceAdd, evalRs, evalR, AV.toV0?, mkRes, V0.toAV, decide_true, decide_false, and_self, Nat.reduceEqDiff, lst_get, Int.cast_ofNat_Int, eq_self, IntWalk.i64_in, IntWalk.i16_in, IntWalk.i32_in, IntWalk.i8_in, IntWalk.u8_in, Int.reduceNeg, finish_app, finish_id, pl_int, pl_bool, pl_str, pl_undef, pl_nil, pl_ptr, plA_c, plA_agg, plA_tup, plV_c, plV_agg, List.all_cons, List.all_nil, Bool.and_true, Bool.true_and, decide_eq_true_eq, decide_eq_false_iff_not, beq_self_eq_true, Bool.not_true, Bool.not_false, Bool.true_eq_false, Bool.false_eq_true, List.map_cons, List.map_nil, List.append_nil, setAt, CV.ok, eqRes, bne_self_eq_false, List.set_cons_zero, List.set_cons_succ, evC_drawn, dr_nil, dr_cons, chk_nil, chk_cons, re_same, unA, Bool.not_eq_true', Bool.not_eq_eq_eq_not, Bool.not_not, Int.zero_add, List.getElem?_nil, partsA, fillC, Int.reduceEq, Int.reduceMul, Int.reduceSub, Int.reduceTDiv, Int.reduceTMod, List.flatten_cons, List.flatten_nil, finish_no, tdiv_pos, tmod_pos, Int.reduceDiv, Int.reduceMod, len_add, vi_int, vi_bool, Int.reduceBNe, Int.reduceBEq, Nat.reduceBEq, Nat.reduceBNe, post_some, post_ite, ite_ex, upd_at, upd_ne, cast_nonneg, cast_toNat, Nat.mul_one, false_implies, true_implies, implies_true, chkg_bool, chk_consg, guard_undef, l10_0, h2, h19, h90, h91, h92, hlt, hgw, hgp, hsg, hll, hpl, hpi, r32, hwr]
      have hlb := get_some_lt hgb
      have step := loop10 (cp := cp) (cp' := cp') hw hp hpl hbp hbw hbr hGb hGr hcs n (i + 1) (by omega) (J.set b (some ⟨27, ints (xs.set (i + 1) (N : Int)), .own⟩)) (hJ.set hGb) (by rw [get_neh (fun h => hbp h.symm)]; exact hgp) (by rw [get_neh (fun h => hbw h.symm)]; exact hgw) (by rw [get_neh (fun h => hbr h.symm)]; exact hgr) _ (by rw [List.length_set]; exact hx) (get_set hlb)
      exact Post.mono (step _ (by simp only [upd_at, upd_ne, Nat.reduceBEq, h2]) (by simp only [upd_at, upd_ne, Nat.reduceBEq, h19]) (by simp only [upd_at, upd_ne, Nat.reduceBEq, h90]) (by simp only [upd_at, upd_ne, Nat.reduceBEq, h91]) (by simp only [upd_at, upd_ne, Nat.reduceBEq]; rfl)) (fun ex σ' H' q => ⟨q.1, q.2.1, fun a => ⟨(q.2.2.1 a).1, (q.2.2.1 a).2.1, by rw [(q.2.2.1 a).2.2.1]; simp only [upd_at, upd_ne, Nat.reduceBEq], by rw [(q.2.2.1 a).2.2.2]; simp only [upd_at, upd_ne, Nat.reduceBEq]⟩, by rw [q.2.2.2.1]; simp only [upd_at, upd_ne, Nat.reduceBEq]; exact h2, q.2.2.2.2⟩)
end Go.Proofs.YtmockobmiagbcaaDoor
