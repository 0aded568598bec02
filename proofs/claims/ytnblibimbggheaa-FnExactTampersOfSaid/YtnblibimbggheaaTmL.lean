/- What functions of the program answer: part TmL. -/
import Derived.Test.YtnblibimbggheaaTmS
import Derived.Test.YtnblibimbggheaaLawT
set_option linter.unusedVariables false
set_option linter.unusedSimpArgs false
set_option linter.unusedSectionVars false
namespace Go.Proofs.Ytnblibimbggheaa
open Go Go.Proofs.Ytnblibimbggheaa.VI
set_option maxHeartbeats 16000000
set_option maxRecDepth 20000
/-! Slices of tampers, as values -/
def ptrOf : CV → Option (Nat × Nat)
  | .slice p _ _ => p
  | _ => none
def TsAt (K : AHeap) (c : CV) (ts : List Tm) : Prop := ∃ p cap, c = .slice p ts.length cap ∧ Tts K p ts
def TsNw (G J : AHeap) (c : CV) (ts : List Tm) : Prop := ∃ p cap, c = .slice p ts.length cap ∧ (0 < ts.length → ∃ id m, p = some (id, 0) ∧ G.length ≤ id ∧ J.get id = some ⟨38, trows ts, m⟩ ∧ (m = .own ∨ m = .opn))
def TsMk (K : AHeap) (c : CV) (n : Nat) (k : Int) : Prop := ∃ p cap, c = .slice p n cap ∧ (0 < n → ∃ id m, p = some (id, 0) ∧ K.get id = some ⟨38, trows (mkT k n), m⟩)
section
variable {G H J K : AHeap} {c c' : CV} {ts : List Tm} {n : Nat} {k : Int}
theorem TsNw.at_ (h : TsNw G J c ts) : TsAt J c ts := by
  obtain ⟨p, cap, h1, h2⟩ := h
  exact ⟨p, cap, h1, fun h0 => by obtain ⟨id, m, h3, _, h4, _⟩ := h2 h0; exact ⟨id, 38, m, h3, h4⟩⟩
theorem TsAt.pre (h : TsAt J c ts) (q : Pre J K) : TsAt K c ts := by
  obtain ⟨p, cap, h1, h2⟩ := h
  exact ⟨p, cap, h1, h2.pre q⟩
theorem TsMk.pre (h : TsMk J c n k) (q : Pre J K) : TsMk K c n k := by
  obtain ⟨p, cap, h1, h2⟩ := h
  exact ⟨p, cap, h1, fun h0 => by obtain ⟨id, m, h3, h4⟩ := h2 h0; exact ⟨id, m, h3, q.get h4⟩⟩
theorem TsNw.of (h : ApS 38 4 G J ts.length (trows ts) (.c c)) : TsNw G J c ts := by
  rcases h with ⟨h1, h2, q, h3⟩ | ⟨h1, h2, id, h3, h4, h5⟩
  · injection h3 with h3
    exact ⟨q, .exact 0, by rw [h3, h1], fun h => by omega⟩
  · injection h3 with h3
    exact ⟨_, _, h3, fun _ => ⟨id, .opn, rfl, h4, h5, .inr rfl⟩⟩
theorem TsNw.nil {p : Option (Nat × Nat)} {cap : Cap} : TsNw G J (.slice p 0 cap) [] := ⟨p, cap, rfl, fun h => by simp at h⟩
theorem TsNw.lt (h : TsNw G J c ts) {i o : Nat} (h0 : 0 < ts.length) (e : ptrOf c = some (i, o)) : G.length ≤ i ∧ i < J.length := by
  obtain ⟨p, cap, rfl, h2⟩ := h
  obtain ⟨id, m, h3, h4, h5, _⟩ := h2 h0
  have e : p = some (i, o) := e
  rw [e] at h3; injection h3 with h3; injection h3 with h3
  subst h3
  exact ⟨h4, get_some_lt h5⟩
theorem TsNw.base (h : TsNw H J c ts) (q : Pre G H) : TsNw G J c ts := by
  obtain ⟨p, cap, h1, h2⟩ := h
  exact ⟨p, cap, h1, fun h0 => by obtain ⟨id, m, h3, h4, h5⟩ := h2 h0; exact ⟨id, m, h3, Nat.le_trans q.len h4, h5⟩⟩
theorem TsNw.turn (h : TsNw G J c ts) (q : ∀ i b, J.get i = some b → G.length ≤ i → K.get i = some b) : TsNw G K c ts := by
  obtain ⟨p, cap, h1, h2⟩ := h
  exact ⟨p, cap, h1, fun h0 => by obtain ⟨id, m, h3, h4, h5, h6⟩ := h2 h0; exact ⟨id, m, h3, h4, q id _ h5 h4, h6⟩⟩
theorem TsNw.pre (h : TsNw G J c ts) (q : Pre J K) : TsNw G K c ts := h.turn fun i b hi _ => q.get hi
theorem eqTs (few : ts.length ≤ 4398046511104) (h : TsAt K c ts) (h' : TsAt K c' ts) : ev kk 41 [.c c, .c c'] K = some (.c (.bool true), K) := by
  obtain ⟨p, cap, rfl, h1⟩ := h
  obtain ⟨q, cap', rfl, h2⟩ := h'
  exact run41 few h1 h2
theorem mkTs (h : TsNw G J c ts) (hk : 0 ≤ k ∧ k ≤ 4398046511104) (few : ts.length ≤ 1048576) : ∃ K, ev kk 42 [.c c, .c (.int .i64 k)] J = some (.c (.int .i64 (k + 4 * ts.length)), K) ∧ K.length = J.length ∧ (∀ G', G'.length ≤ G.length → Pre G' J → Pre G' K) ∧ TsMk K c ts.length k ∧ (∀ i b, J.get i = some b → (∀ o, 0 < ts.length → ptrOf c ≠ some (i, o)) → K.get i = some b) := by
  obtain ⟨p, cap, rfl, h2⟩ := h
  by_cases h0 : 0 < ts.length
  · obtain ⟨id, m, rfl, h4, h5, h6⟩ := h2 h0
    have lid := get_some_lt h5
    refine ⟨J.set id (some ⟨38, trows (mkT k ts.length), m⟩), run42m h6 hk few h5 rfl, by simp, fun G' h1 h2 => h2.set (by omega), ⟨_, _, rfl, fun _ => ⟨id, m, rfl, by rw [get_set lid]⟩⟩, fun i b hi hne => ?_⟩
    have : i ≠ id := fun e => hne 0 h0 (by rw [e]; rfl)
    rw [get_neh this]; exact hi
  · have hz : ts.length = 0 := by omega
    rw [hz]
    refine ⟨J, ?_, rfl, fun G' _ h2 => h2, ⟨_, _, rfl, fun h => by omega⟩, fun i b hi _ => hi⟩
    rw [run42z]; simp
theorem heldTs (h : TsMk K c n k) (hk : 0 ≤ k ∧ k ≤ 4398046511104) (few : n ≤ 1048576) : ev kk 45 [.c c, .c (.int .i64 k)] K = some (.c (.int .i64 (k + 4 * n)), K) := by
  obtain ⟨p, cap, rfl, h2⟩ := h
  by_cases h0 : 0 < n
  · obtain ⟨id, m, rfl, h4⟩ := h2 h0
    exact run45 hk few h4
  · have hz : n = 0 := by omega
    rw [hz, run45z]; simp
end
/-! The ways, with a code -/
def twR (p : Pr) : List Tm × Int := if okP p = true then (waysP p, 0) else ([], 1)
theorem ways_few {p : Pr} (h : p.xs.length ≤ 60) : (waysP p).length ≤ 366 := by
  have h1 := wiF_len (p := p) (n := p.xs.length) (i := 0)
  have h2 := adF_len (p := p) (n := 6) (k := 0)
  unfold waysP; rw [List.length_append]; omega
theorem tw_few {p : Pr} : (twR p).1.length ≤ 366 := by
  unfold twR
  split
  · rename_i h; exact ways_few (okH_p h).1
  · simp
theorem run43 {h : Hf} {H : AHeap} (hh : HfAt H h) : ∃ c J, ev kk 43 [.agg (hfr h)] H = some (.tup [.c c, .c (.int .i64 (twR h.pr).2)], J) ∧ Pre H J ∧ TsNw H J c (twR h.pr).1 := by
  have hA := hh.app [hfb h]
  have b0 : AHeap.get (H ++ [hfb h]) H.length = hfb h := by rw [get_app0]; rfl
  have r57 := v66 hA b0
  unfold twR
  rw [show okP h.pr = okF h from rfl]
  rw [ev_call c43]; unfold k43; rw [evB_eq rfl]
  cases ok : okF h
  · rw [ok] at r57
    simp (maxSteps := 4000000) (disch := first | omega | (refine _root_.id ?_; simp only [pl_int, pl_bool, pl_str, pl_undef, pl_nil, pl_ptr, plA_c, plA_agg, plA_tup, plV_c, plV_agg, List.all_cons, List.all_nil, Bool.and_true, Bool.and_self, eq_self, vi_int, vi_bool, get_app, get_app0, List.getElem?_cons_zero, List.getElem?_cons_succ, Option.join_some, lst_get, getL, upd_at, upd_ne, Nat.reduceBEq])) only [evC_skip, evC_exit, evC_ret, evC_region, evC_seq, evC_block, ev_t, ev_k, putS_some, upd_l, putS_none, ops_nil, ops_pick, pick_bool, ops_consg, guard_bool, evC_condC, cond_bool, ops_cons, next_some, next_none, next_ite, nextD_some, nextD_none, nextD_ite, bind_ite, map_ite, then_ite, then_norm, then_ret, then_exit, out_ite, out_norm, out_ret, out_exit, done_ite, done_norm, done_ret, putL, getL, Option.bind_some, Option.map_some, Option.bind_none, Option.map_none, evalOp, AV.cells?, readCells, readCell, writeCells, get_app, get_app0, set_app, set_app0, len_app, List.getElem?_cons_zero, List.getElem?_cons_succ, Option.join_some, List.length_cons, List.length_nil, List.append_assoc, List.cons_append, List.nil_append, Nat.zero_add, Nat.add_zero, Nat.reduceAdd, Nat.reduceLeDiff, Nat.reduceLT, Nat.reduceMul, Nat.reduceSub, List.drop_zero, List.drop_succ_cons, List.take_zero, List.take_succ_cons, List.take_nil, List.drop_nil, if_true, if_false, ite_true, ite_false, ite_self, ↓reduceIte, reduceCtorEq, binA, binC, intBin, or_false, false_or, or_true, true_or, and_true, true_and, Int.reduceLT, Int.reduceLE, Int.reduceToNat, Int.reduceAdd, evalRs, evalR, AV.toV0?, mkRes, V0.toAV, decide_true, decide_false, and_self, Nat.reduceEqDiff, lst_get, Int.cast_ofNat_Int, eq_self, IntWalk.i64_in, IntWalk.i16_in, IntWalk.i32_in, IntWalk.i8_in, IntWalk.u8_in, Int.reduceNeg, finish_app, finish_id, pl_int, pl_bool, pl_str, pl_undef, pl_nil, pl_ptr, plA_c, plA_agg, plA_tup, plV_c, plV_agg, List.all_cons, List.all_nil, Bool.and_true, Bool.true_and, decide_eq_true_eq, decide_eq_false_iff_not, beq_self_eq_true, Bool.not_true, Bool.not_false, Bool.true_eq_false, Bool.false_eq_true, List.map_cons, List.map_nil, List.append_nil, setAt, CV.ok, eqRes, bne_self_eq_false, List.set_cons_zero, List.set_cons_succ, evC_drawn, dr_nil, dr_cons, chk_nil, chk_cons, re_same, unA, Bool.not_eq_true', Bool.not_eq_eq_eq_not, Bool.not_not, Int.zero_add, List.getElem?_nil, partsA, fillC, Int.reduceEq, Int.reduceMul, Int.reduceSub, Int.reduceTDiv, Int.reduceTMod, List.flatten_cons, List.flatten_nil, finish_no, tdiv_pos, tmod_pos, Int.reduceDiv, Int.reduceMod, len_add, vi_int, vi_bool, Int.reduceBNe, Int.reduceBEq, Nat.reduceBEq, Nat.reduceBNe, post_some, post_ite, ite_ex, upd_at, upd_ne, cast_nonneg, cast_toNat, Nat.mul_one, false_implies, true_implies, implies_true, chkg_bool, chk_consg, guard_undef, r57]
    exact ⟨_, _, rfl, pre_app, TsNw.nil⟩
  · rw [ok] at r57
    obtain ⟨c, J, e1, p1, o1⟩ := run72 hA ok b0
    rw [if_pos rfl]
    simp (maxSteps := 4000000) (disch := first | omega | (refine _root_.id ?_; simp only [pl_int, pl_bool, pl_str, pl_undef, pl_nil, pl_ptr, plA_c, plA_agg, plA_tup, plV_c, plV_agg, List.all_cons, List.all_nil, Bool.and_true, Bool.and_self, eq_self, vi_int, vi_bool, get_app, get_app0, List.getElem?_cons_zero, List.getElem?_cons_succ, Option.join_some, lst_get, getL, upd_at, upd_ne, Nat.reduceBEq])) only [evC_skip, evC_exit, evC_ret, evC_region, evC_seq, evC_block, ev_t, ev_k, putS_some, upd_l, putS_none, ops_nil, ops_pick, pick_bool, ops_consg, guard_bool, evC_condC, cond_bool, ops_cons, next_some, next_none, next_ite, nextD_some, nextD_none, nextD_ite, bind_ite, map_ite, then_ite, then_norm, then_ret, then_exit, out_ite, out_norm, out_ret, out_exit, done_ite, done_norm, done_ret, putL, getL, Option.bind_some, Option.map_some, Option.bind_none, Option.map_none, evalOp, AV.cells?, readCells, readCell, writeCells, get_app, get_app0, set_app, set_app0, len_app, List.getElem?_cons_zero, List.getElem?_cons_succ, Option.join_some, List.length_cons, List.length_nil, List.append_assoc, List.cons_append, List.nil_append, Nat.zero_add, Nat.add_zero, Nat.reduceAdd, Nat.reduceLeDiff, Nat.reduceLT, Nat.reduceMul, Nat.reduceSub, List.drop_zero, List.drop_succ_cons, List.take_zero, List.take_succ_cons, List.take_nil, List.drop_nil, if_true, if_false, ite_true, ite_false, ite_self, ↓reduceIte, reduceCtorEq, binA, binC, intBin, or_false, false_or, or_true, true_or, and_true, true_and, Int.reduceLT, Int.reduceLE, Int.reduceToNat, Int.reduceAdd, evalRs, evalR, AV.toV0?, mkRes, V0.toAV, decide_true, decide_false, and_self, Nat.reduceEqDiff, lst_get, Int.cast_ofNat_Int, eq_self, IntWalk.i64_in, IntWalk.i16_in, IntWalk.i32_in, IntWalk.i8_in, IntWalk.u8_in, Int.reduceNeg, finish_app, finish_id, pl_int, pl_bool, pl_str, pl_undef, pl_nil, pl_ptr, plA_c, plA_agg, plA_tup, plV_c, plV_agg, List.all_cons, List.all_nil, Bool.and_true, Bool.true_and, decide_eq_true_eq, decide_eq_false_iff_not, beq_self_eq_true, Bool.not_true, Bool.not_false, Bool.true_eq_false, Bool.false_eq_true, List.map_cons, List.map_nil, List.append_nil, setAt, CV.ok, eqRes, bne_self_eq_false, List.set_cons_zero, List.set_cons_succ, evC_drawn, dr_nil, dr_cons, chk_nil, chk_cons, re_same, unA, Bool.not_eq_true', Bool.not_eq_eq_eq_not, Bool.not_not, Int.zero_add, List.getElem?_nil, partsA, fillC, Int.reduceEq, Int.reduceMul, Int.reduceSub, Int.reduceTDiv, Int.reduceTMod, List.flatten_cons, List.flatten_nil, finish_no, tdiv_pos, tmod_pos, Int.reduceDiv, Int.reduceMod, len_add, vi_int, vi_bool, Int.reduceBNe, Int.reduceBEq, Nat.reduceBEq, Nat.reduceBNe, post_some, post_ite, ite_ex, upd_at, upd_ne, cast_nonneg, cast_toNat, Nat.mul_one, false_implies, true_implies, implies_true, chkg_bool, chk_consg, guard_undef, r57, e1]
    exact ⟨_, _, rfl, pre_app.trans p1, (TsNw.of o1).base pre_app⟩
theorem run44 {h : Hf} {H : AHeap} (hh : HfAt H h) : ∃ c J, ev kk 44 [.agg (hfr h)] H = some (.tup [.c c, .c (.int .i64 (twR h.pr).2)], J) ∧ Pre H J ∧ TsNw H J c (twR h.pr).1 := by
  have hA := hh.app [hfb h]
  have r59 := v70 hA
  have hl := hfr_len h
  have htk := hfr_t (h := h)
  unfold twR
  rw [show okP h.pr = okF h from rfl]
  rw [ev_call c44]; unfold k44; rw [evB_eq rfl]
  obtain ⟨R, hR⟩ : ∃ R, R = hfr h := ⟨_, rfl⟩
  cases ok : okF h
  · rw [ok] at r59
    simp only [hfb, ← hR] at r59 hl htk ⊢
    simp (maxSteps := 4000000) (disch := first | omega | (refine _root_.id ?_; simp only [pl_int, pl_bool, pl_str, pl_undef, pl_nil, pl_ptr, plA_c, plA_agg, plA_tup, plV_c, plV_agg, List.all_cons, List.all_nil, Bool.and_true, Bool.and_self, eq_self, vi_int, vi_bool, get_app, get_app0, List.getElem?_cons_zero, List.getElem?_cons_succ, Option.join_some, lst_get, getL, upd_at, upd_ne, Nat.reduceBEq])) only [evC_skip, evC_exit, evC_ret, evC_region, evC_seq, evC_block, ev_t, ev_k, putS_some, upd_l, putS_none, ops_nil, ops_pick, pick_bool, ops_consg, guard_bool, evC_condC, cond_bool, ops_cons, next_some, next_none, next_ite, nextD_some, nextD_none, nextD_ite, bind_ite, map_ite, then_ite, then_norm, then_ret, then_exit, out_ite, out_norm, out_ret, out_exit, done_ite, done_norm, done_ret, putL, getL, Option.bind_some, Option.map_some, Option.bind_none, Option.map_none, evalOp, AV.cells?, readCells, readCell, writeCells, get_app, get_app0, set_app, set_app0, len_app, List.getElem?_cons_zero, List.getElem?_cons_succ, Option.join_some, List.length_cons, List.length_nil, List.append_assoc, List.cons_append, List.nil_append, Nat.zero_add, Nat.add_zero, Nat.reduceAdd, Nat.reduceLeDiff, Nat.reduceLT, Nat.reduceMul, Nat.reduceSub, List.drop_zero, List.drop_succ_cons, List.take_zero, List.take_succ_cons, List.take_nil, List.drop_nil, if_true, if_false, ite_true, ite_false, ite_self, ↓reduceIte, reduceCtorEq, binA, binC, intBin, or_false, false_or, or_true, true_or, and_true, true_and, Int.reduceLT, Int.reduceLE, Int.reduceToNat, Int.reduceAdd, evalRs, evalR, AV.toV0?, mkRes, V0.toAV, decide_true, decide_false, and_self, Nat.reduceEqDiff, lst_get, Int.cast_ofNat_Int, eq_self, IntWalk.i64_in, IntWalk.i16_in, IntWalk.i32_in, IntWalk.i8_in, IntWalk.u8_in, Int.reduceNeg, finish_app, finish_id, pl_int, pl_bool, pl_str, pl_undef, pl_nil, pl_ptr, plA_c, plA_agg, plA_tup, plV_c, plV_agg, List.all_cons, List.all_nil, Bool.and_true, Bool.true_and, decide_eq_true_eq, decide_eq_false_iff_not, beq_self_eq_true, Bool.not_true, Bool.not_false, Bool.true_eq_false, Bool.false_eq_true, List.map_cons, List.map_nil, List.append_nil, setAt, CV.ok, eqRes, bne_self_eq_false, List.set_cons_zero, List.set_cons_succ, evC_drawn, dr_nil, dr_cons, chk_nil, chk_cons, re_same, unA, Bool.not_eq_true', Bool.not_eq_eq_eq_not, Bool.not_not, Int.zero_add, List.getElem?_nil, partsA, fillC, Int.reduceEq, Int.reduceMul, Int.reduceSub, Int.reduceTDiv, Int.reduceTMod, List.flatten_cons, List.flatten_nil, finish_no, tdiv_pos, tmod_pos, Int.reduceDiv, Int.reduceMod, len_add, vi_int, vi_bool, Int.reduceBNe, Int.reduceBEq, Nat.reduceBEq, Nat.reduceBNe, post_some, post_ite, ite_ex, upd_at, upd_ne, cast_nonneg, cast_toNat, Nat.mul_one, false_implies, true_implies, implies_true, chkg_bool, chk_consg, guard_undef, hl, htk, Nat.le_refl, r59]
    exact ⟨_, _, rfl, pre_app, TsNw.nil⟩
  · rw [ok] at r59
    obtain ⟨c, J, e1, p1, o1⟩ := run83 hA ok
    rw [if_pos rfl]
    have o2 := TsNw.of o1
    simp only [hfb, ← hR] at r59 e1 p1 o2 hl htk ⊢
    simp (maxSteps := 4000000) (disch := first | omega | (refine _root_.id ?_; simp only [pl_int, pl_bool, pl_str, pl_undef, pl_nil, pl_ptr, plA_c, plA_agg, plA_tup, plV_c, plV_agg, List.all_cons, List.all_nil, Bool.and_true, Bool.and_self, eq_self, vi_int, vi_bool, get_app, get_app0, List.getElem?_cons_zero, List.getElem?_cons_succ, Option.join_some, lst_get, getL, upd_at, upd_ne, Nat.reduceBEq])) only [evC_skip, evC_exit, evC_ret, evC_region, evC_seq, evC_block, ev_t, ev_k, putS_some, upd_l, putS_none, ops_nil, ops_pick, pick_bool, ops_consg, guard_bool, evC_condC, cond_bool, ops_cons, next_some, next_none, next_ite, nextD_some, nextD_none, nextD_ite, bind_ite, map_ite, then_ite, then_norm, then_ret, then_exit, out_ite, out_norm, out_ret, out_exit, done_ite, done_norm, done_ret, putL, getL, Option.bind_some, Option.map_some, Option.bind_none, Option.map_none, evalOp, AV.cells?, readCells, readCell, writeCells, get_app, get_app0, set_app, set_app0, len_app, List.getElem?_cons_zero, List.getElem?_cons_succ, Option.join_some, List.length_cons, List.length_nil, List.append_assoc, List.cons_append, List.nil_append, Nat.zero_add, Nat.add_zero, Nat.reduceAdd, Nat.reduceLeDiff, Nat.reduceLT, Nat.reduceMul, Nat.reduceSub, List.drop_zero, List.drop_succ_cons, List.take_zero, List.take_succ_cons, List.take_nil, List.drop_nil, if_true, if_false, ite_true, ite_false, ite_self, ↓reduceIte, reduceCtorEq, binA, binC, intBin, or_false, false_or, or_true, true_or, and_true, true_and, Int.reduceLT, Int.reduceLE, Int.reduceToNat, Int.reduceAdd, evalRs, evalR, AV.toV0?, mkRes, V0.toAV, decide_true, decide_false, and_self, Nat.reduceEqDiff, lst_get, Int.cast_ofNat_Int, eq_self, IntWalk.i64_in, IntWalk.i16_in, IntWalk.i32_in, IntWalk.i8_in, IntWalk.u8_in, Int.reduceNeg, finish_app, finish_id, pl_int, pl_bool, pl_str, pl_undef, pl_nil, pl_ptr, plA_c, plA_agg, plA_tup, plV_c, plV_agg, List.all_cons, List.all_nil, Bool.and_true, Bool.true_and, decide_eq_true_eq, decide_eq_false_iff_not, beq_self_eq_true, Bool.not_true, Bool.not_false, Bool.true_eq_false, Bool.false_eq_true, List.map_cons, List.map_nil, List.append_nil, setAt, CV.ok, eqRes, bne_self_eq_false, List.set_cons_zero, List.set_cons_succ, evC_drawn, dr_nil, dr_cons, chk_nil, chk_cons, re_same, unA, Bool.not_eq_true', Bool.not_eq_eq_eq_not, Bool.not_not, Int.zero_add, List.getElem?_nil, partsA, fillC, Int.reduceEq, Int.reduceMul, Int.reduceSub, Int.reduceTDiv, Int.reduceTMod, List.flatten_cons, List.flatten_nil, finish_no, tdiv_pos, tmod_pos, Int.reduceDiv, Int.reduceMod, len_add, vi_int, vi_bool, Int.reduceBNe, Int.reduceBEq, Nat.reduceBEq, Nat.reduceBNe, post_some, post_ite, ite_ex, upd_at, upd_ne, cast_nonneg, cast_toNat, Nat.mul_one, false_implies, true_implies, implies_true, chkg_bool, chk_consg, guard_undef, hl, htk, Nat.le_refl, r59, e1]
    exact ⟨_, _, rfl, pre_app.trans p1, o2.base pre_app⟩
end Go.Proofs.Ytnblibimbggheaa
