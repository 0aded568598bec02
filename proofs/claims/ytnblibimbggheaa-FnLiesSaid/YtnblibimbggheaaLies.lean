/- What functions of the program answer: part Lies. -/
import Derived.Test.YtnblibimbggheaaPairs
set_option linter.unusedVariables false
set_option linter.unusedSimpArgs false
set_option linter.unusedSectionVars false
namespace Go.Proofs.Ytnblibimbggheaa
open Go Go.Proofs.Ytnblibimbggheaa.VI
set_option maxHeartbeats 16000000
set_option maxRecDepth 20000
/-! Whether notches are equal -/
def eqN (xs ys : List Nt) : Bool := decide (fl xs = fl ys)
where fl (zs : List Nt) : List (Int × Int) := zs.map fun z => (z.k, z.a)
theorem fl_len (zs : List Nt) : (eqN.fl zs).length = zs.length := List.length_map ..
theorem eqN_step {xs ys : List Nt} {i : Nat} (hi : i < xs.length) (hj : i < ys.length) : eqN (xs.drop i) (ys.drop i) = (((xs[i]'hi).k == (ys[i]'hj).k && (xs[i]'hi).a == (ys[i]'hj).a) && eqN (xs.drop (i + 1)) (ys.drop (i + 1))) := by
  rw [List.drop_eq_getElem_cons hi, List.drop_eq_getElem_cons hj]
  generalize xs[i]'hi = x
  generalize ys[i]'hj = y
  unfold eqN eqN.fl
  by_cases h1 : x.k = y.k
  · by_cases h2 : x.a = y.a
    · simp [h1, h2]
    · simp [h1, h2]
  · simp [h1]
theorem eq_nots {x y : Nt} : eqCells [.int, .int] (nrow x) (nrow y) = some (x.k == y.k && x.a == y.a) := by simp [eqCells, eqC]
theorem loop109 {p q : Option (Nat × Nat)} {cap cap' : Cap} {xs ys : List Nt} (hlen : xs.length ≤ 4398046511104) (hxy : xs.length = ys.length) {H : AHeap} (hp : Nts H p xs) (hq : Nts H q ys) : ∀ (n i : Nat) (_ : i + n = xs.length) (σ : Sl) (_ : σ 0 = .c (.slice p xs.length cap)) (_ : σ 1 = .c (.slice q ys.length cap')) (_ : σ 5 = .c (.int .i64 i)),
    Post (evC (ev kk) (.loop l109_0) (σ, H)) fun ex σ' H' => ex = (if eqN (xs.drop i) (ys.drop i) = true then .exit 0 else .ret) ∧ H' = H ∧ (eqN (xs.drop i) (ys.drop i) = false → σ' 4 = .c (.bool false))
  | 0, i, hi, σ, h0, h1, h5 => by
    have hge : ¬ ((i : Int) < xs.length) := by omega
    have e : xs.drop i = [] := List.drop_eq_nil_of_le (by omega)
    have e' : ys.drop i = [] := List.drop_eq_nil_of_le (by omega)
    have e2 : eqN [] [] = true := rfl
    rw [evC_loop, e, e', e2]
    simp only [evC_exit, evC_region, evC_seq, ev_t, putS_some, ops_nil, evC_condC, cond_bool, ops_cons, next_some, then_norm, then_exit, Option.map_some, evalOp, ↓reduceIte, reduceCtorEq, binA, binC, intBin, or_false, or_true, and_true, decide_false, and_self, eq_self, Bool.true_eq_false, Bool.false_eq_true, Nat.reduceBEq, post_some, upd_at, upd_ne, false_implies, l109_0, h0, h5, hge]
  | n + 1, i, hi, σ, h0, h1, h5 => by
    have hil : i < xs.length := by omega
    have hjl : i < ys.length := by omega
    have hlt : (i : Int) < xs.length := by omega
    have hlt' : (i : Int) < ys.length := by omega
    obtain ⟨id, t, m, rfl, hb⟩ := hp (by omega)
    obtain ⟨id', t', m', rfl, hb'⟩ := hq (by omega)
    have hle : i * 2 + 2 ≤ (nrows xs).length := by rw [nrowl]; omega
    have hle' : i * 2 + 2 ≤ (nrows ys).length := by rw [nrowl]; omega
    have step := loop109 (cap := cap) (cap' := cap') hlen hxy hp hq n (i + 1) (by omega)
    have hc := nrc hil
    have hc' := nrc hjl
    rw [evC_loop, eqN_step hil hjl]
    generalize xs[i]'hil = x at *
    generalize ys[i]'hjl = y at *
    cases hE : (x.k == y.k && x.a == y.a)
    · simp (maxSteps := 4000000) (disch := first | omega | (refine _root_.id ?_; simp only [pl_int, pl_bool, pl_str, pl_undef, pl_nil, pl_ptr, plA_c, plA_agg, plA_tup, plV_c, plV_agg, List.all_cons, List.all_nil, Bool.and_true, Bool.and_self, eq_self, vi_int, vi_bool, get_app, get_app0, List.getElem?_cons_zero, List.getElem?_cons_succ, Option.join_some, lst_get, getL, upd_at, upd_ne, Nat.reduceBEq])) only [evC_skip, evC_ret, evC_region, evC_seq, evC_block, ev_t, ev_k, putS_some, ops_nil, evC_condC, cond_bool, ops_cons, next_some, nextD_some, then_norm, then_ret, out_ret, Option.map_some, evalOp, readCells, Nat.zero_add, ↓reduceIte, reduceCtorEq, binA, binC, intBin, or_false, or_true, decide_true, and_self, eq_self, Bool.not_false, Bool.false_eq_true, eqRes, evC_drawn, dr_nil, dr_cons, chk_nil, post_some, upd_at, upd_ne, cast_nonneg, cast_toNat, true_implies, l109_0, h0, h1, h5, hlt, hlt', hb, hb', hle, hle', hc, hc', eq_nots, hE, Bool.false_and]
    · simp (maxSteps := 4000000) (disch := first | omega | (refine _root_.id ?_; simp only [pl_int, pl_bool, pl_str, pl_undef, pl_nil, pl_ptr, plA_c, plA_agg, plA_tup, plV_c, plV_agg, List.all_cons, List.all_nil, Bool.and_true, Bool.and_self, eq_self, vi_int, vi_bool, get_app, get_app0, List.getElem?_cons_zero, List.getElem?_cons_succ, Option.join_some, lst_get, getL, upd_at, upd_ne, Nat.reduceBEq])) only [evC_skip, evC_region, evC_seq, evC_block, ev_t, ev_k, putS_some, ops_nil, evC_condC, cond_bool, ops_cons, next_some, nextD_some, then_norm, out_norm, Option.map_some, evalOp, readCells, Nat.zero_add, ↓reduceIte, reduceCtorEq, binA, binC, intBin, or_false, or_true, decide_true, and_self, eq_self, IntWalk.i64_in, Bool.true_and, Bool.not_true, Bool.false_eq_true, eqRes, evC_drawn, dr_nil, dr_cons, chk_nil, upd_at, upd_ne, cast_nonneg, cast_toNat, l109_0, h0, h1, h5, hlt, hlt', hb, hb', hle, hle', hc, hc', eq_nots, hE, Bool.true_and]
      exact step _ (by simp only [upd_ne, Nat.reduceBEq, h0]) (by simp only [upd_ne, Nat.reduceBEq, h1]) (by simp only [upd_at]; rfl)
theorem loop105 {p q : Option (Nat × Nat)} {cap cap' : Cap} {xs ys : List Nt} (hlen : xs.length ≤ 4398046511104) (hxy : xs.length = ys.length) {H : AHeap} (hp : Nts H p xs) (hq : Nts H q ys) : ∀ (n i : Nat) (_ : i + n = xs.length) (σ : Sl) (_ : σ 0 = .c (.slice p xs.length cap)) (_ : σ 1 = .c (.slice q ys.length cap')) (_ : σ 12 = .c (.int .i64 xs.length)) (_ : σ 13 = .c (.int .i64 i)),
    Post (evC (ev kk) (.loop l105_0) (σ, H)) fun ex σ' H' => ex = (if eqN (xs.drop i) (ys.drop i) = true then .exit 0 else .ret) ∧ H' = H ∧ (eqN (xs.drop i) (ys.drop i) = false → σ' 4 = .c (.bool false))
  | 0, i, hi, σ, h0, h1, h12, h13 => by
    have hge : ¬ ((i : Int) < xs.length) := by omega
    have e : xs.drop i = [] := List.drop_eq_nil_of_le (by omega)
    have e' : ys.drop i = [] := List.drop_eq_nil_of_le (by omega)
    have e2 : eqN [] [] = true := rfl
    rw [evC_loop, e, e', e2]
    simp only [evC_exit, evC_region, evC_seq, ev_t, putS_some, ops_nil, evC_condC, cond_bool, ops_cons, next_some, then_norm, then_exit, Option.map_some, evalOp, ↓reduceIte, reduceCtorEq, binA, binC, intBin, or_false, or_true, and_true, decide_false, and_self, eq_self, Bool.true_eq_false, Bool.false_eq_true, post_some, upd_at, false_implies, l105_0, h12, h13, hge]
  | n + 1, i, hi, σ, h0, h1, h12, h13 => by
    have hil : i < xs.length := by omega
    have hjl : i < ys.length := by omega
    have hlt : (i : Int) < xs.length := by omega
    have hlt' : (i : Int) < ys.length := by omega
    obtain ⟨id, t, m, rfl, hb⟩ := hp (by omega)
    obtain ⟨id', t', m', rfl, hb'⟩ := hq (by omega)
    have hle : i * 2 + 2 ≤ (nrows xs).length := by rw [nrowl]; omega
    have hle' : i * 2 + 2 ≤ (nrows ys).length := by rw [nrowl]; omega
    have step := loop105 (cap := cap) (cap' := cap') hlen hxy hp hq n (i + 1) (by omega)
    have hc := nrc hil
    have hc' := nrc hjl
    rw [evC_loop, eqN_step hil hjl]
    generalize xs[i]'hil = x at *
    generalize ys[i]'hjl = y at *
    cases hE : (x.k == y.k && x.a == y.a)
    · simp (maxSteps := 4000000) (disch := first | omega | (refine _root_.id ?_; simp only [pl_int, pl_bool, pl_str, pl_undef, pl_nil, pl_ptr, plA_c, plA_agg, plA_tup, plV_c, plV_agg, List.all_cons, List.all_nil, Bool.and_true, Bool.and_self, eq_self, vi_int, vi_bool, get_app, get_app0, List.getElem?_cons_zero, List.getElem?_cons_succ, Option.join_some, lst_get, getL, upd_at, upd_ne, Nat.reduceBEq])) only [evC_skip, evC_ret, evC_region, evC_seq, evC_block, ev_t, ev_k, putS_some, ops_nil, evC_condC, cond_bool, ops_cons, next_some, nextD_some, then_norm, then_ret, out_ret, Option.map_some, evalOp, readCells, Nat.zero_add, ↓reduceIte, reduceCtorEq, binA, binC, intBin, or_false, or_true, decide_true, and_self, eq_self, Bool.not_false, Bool.false_eq_true, eqRes, evC_drawn, dr_nil, dr_cons, chk_nil, post_some, upd_at, upd_ne, cast_nonneg, cast_toNat, true_implies, l105_0, h0, h1, h12, h13, hlt, hlt', hb, hb', hle, hle', hc, hc', eq_nots, hE, Bool.false_and]
    · simp (maxSteps := 4000000) (disch := first | omega | (refine _root_.id ?_; simp only [pl_int, pl_bool, pl_str, pl_undef, pl_nil, pl_ptr, plA_c, plA_agg, plA_tup, plV_c, plV_agg, List.all_cons, List.all_nil, Bool.and_true, Bool.and_self, eq_self, vi_int, vi_bool, get_app, get_app0, List.getElem?_cons_zero, List.getElem?_cons_succ, Option.join_some, lst_get, getL, upd_at, upd_ne, Nat.reduceBEq])) only [evC_skip, evC_region, evC_seq, evC_block, ev_t, ev_k, putS_some, ops_nil, evC_condC, cond_bool, ops_cons, next_some, nextD_some, then_norm, out_norm, Option.map_some, evalOp, readCells, Nat.zero_add, ↓reduceIte, reduceCtorEq, binA, binC, intBin, or_false, or_true, decide_true, and_self, eq_self, IntWalk.i64_in, Bool.true_and, Bool.not_true, Bool.false_eq_true, eqRes, evC_drawn, dr_nil, dr_cons, chk_nil, upd_at, upd_ne, cast_nonneg, cast_toNat, l105_0, h0, h1, h12, h13, hlt, hlt', hb, hb', hle, hle', hc, hc', eq_nots, hE, Bool.true_and]
      exact step _ (by simp only [upd_ne, Nat.reduceBEq, h0]) (by simp only [upd_ne, Nat.reduceBEq, h1]) (by simp only [upd_ne, Nat.reduceBEq, h12]) (by simp only [upd_at]; rfl)
theorem eqN_ne {xs ys : List Nt} (h : xs.length ≠ ys.length) : eqN xs ys = false := by
  unfold eqN
  apply decide_eq_false
  intro e
  have := congrArg List.length e
  rw [fl_len, fl_len] at this
  exact h this
theorem run109 {p q : Option (Nat × Nat)} {cap cap' : Cap} {xs ys : List Nt} (hlen : xs.length ≤ 4398046511104) (hlen' : ys.length ≤ 4398046511104) {H : AHeap} (hp : Nts H p xs) (hq : Nts H q ys) : ev kk 109 [.c (.slice p xs.length cap), .c (.slice q ys.length cap')] H = some (.c (.bool (eqN xs ys)), H) := by
  by_cases hxy : xs.length = ys.length
  · have L := fun σ h0 h1 h5 => post_fin (loop109 (cap := cap) (cap' := cap') hlen hxy hp hq xs.length 0 (by omega) σ h0 h1 h5)
    simp only [List.drop_zero, Int.natCast_zero] at L
    have hb : ((xs.length : Int) != (ys.length : Int)) = false := by simp [hxy]
    cases hE : eqN xs ys
    · rw [hE] at L
      simp only [Bool.false_eq_true, if_false, true_implies] at L
      rw [ev_call c109]; unfold k109; rw [evB_eq rfl]
      simp (maxSteps := 4000000) (disch := first | omega | (refine _root_.id ?_; simp only [pl_int, pl_bool, pl_str, pl_undef, pl_nil, pl_ptr, plA_c, plA_agg, plA_tup, plV_c, plV_agg, List.all_cons, List.all_nil, Bool.and_true, Bool.and_self, eq_self, vi_int, vi_bool, get_app, get_app0, List.getElem?_cons_zero, List.getElem?_cons_succ, Option.join_some, lst_get, getL, upd_at, upd_ne, Nat.reduceBEq])) only [evC_skip, evC_region, evC_seq, evC_block, ev_t, ev_k, putS_some, upd_l, ops_nil, evC_condC, cond_bool, ops_cons, next_some, then_norm, then_ret, out_ret, done_ret, putL, getL, Option.bind_some, Option.map_some, evalOp, ↓reduceIte, reduceCtorEq, binA, binC, intBin, or_false, or_true, evalRs, evalR, AV.toV0?, mkRes, V0.toAV, lst_get, eq_self, finish_id, Bool.false_eq_true, hb, (fun σ h0 h1 h5 => (L σ h0 h1 h5).1), (fun σ h0 h1 h5 => (L σ h0 h1 h5).2)]
    · rw [hE] at L
      simp only [if_true] at L
      rw [ev_call c109]; unfold k109; rw [evB_eq rfl]
      simp (maxSteps := 4000000) (disch := first | omega | (refine _root_.id ?_; simp only [pl_int, pl_bool, pl_str, pl_undef, pl_nil, pl_ptr, plA_c, plA_agg, plA_tup, plV_c, plV_agg, List.all_cons, List.all_nil, Bool.and_true, Bool.and_self, eq_self, vi_int, vi_bool, get_app, get_app0, List.getElem?_cons_zero, List.getElem?_cons_succ, Option.join_some, lst_get, getL, upd_at, upd_ne, Nat.reduceBEq])) only [evC_skip, evC_ret, evC_region, evC_seq, evC_block, ev_t, ev_k, putS_some, upd_l, ops_nil, evC_condC, cond_bool, ops_cons, next_some, then_norm, out_exit, done_ret, putL, getL, Option.bind_some, Option.map_some, evalOp, ↓reduceIte, reduceCtorEq, binA, binC, intBin, or_false, or_true, evalRs, evalR, AV.toV0?, mkRes, V0.toAV, lst_get, eq_self, finish_id, Bool.false_eq_true, upd_at, hb, (fun σ h0 h1 h5 => (L σ h0 h1 h5).1)]
  · have hb : ((xs.length : Int) != (ys.length : Int)) = true := by simp; omega
    rw [eqN_ne hxy]
    rw [ev_call c109]; unfold k109; rw [evB_eq rfl]
    simp (maxSteps := 4000000) (disch := first | omega | (refine _root_.id ?_; simp only [pl_int, pl_bool, pl_str, pl_undef, pl_nil, pl_ptr, plA_c, plA_agg, plA_tup, plV_c, plV_agg, List.all_cons, List.all_nil, Bool.and_true, Bool.and_self, eq_self, vi_int, vi_bool, get_app, get_app0, List.getElem?_cons_zero, List.getElem?_cons_succ, Option.join_some, lst_get, getL, upd_at, upd_ne, Nat.reduceBEq])) only [evC_ret, evC_region, evC_seq, ev_t, ev_k, putS_some, upd_l, ops_nil, evC_condC, cond_bool, ops_cons, next_some, then_norm, then_ret, done_ret, putL, getL, Option.bind_some, Option.map_some, evalOp, ↓reduceIte, reduceCtorEq, binA, binC, intBin, or_false, or_true, evalRs, evalR, AV.toV0?, mkRes, V0.toAV, lst_get, eq_self, finish_id, hb]
theorem run105 {p q : Option (Nat × Nat)} {cap cap' : Cap} {xs ys : List Nt} (hlen : xs.length ≤ 4398046511104) (hlen' : ys.length ≤ 4398046511104) {H : AHeap} (hp : Nts H p xs) (hq : Nts H q ys) : ev kk 105 [.c (.slice p xs.length cap), .c (.slice q ys.length cap')] H = some (.c (.bool (eqN xs ys)), H) := by
  by_cases hxy : xs.length = ys.length
  · have L := fun σ h0 h1 h12 h13 => post_fin (loop105 (cap := cap) (cap' := cap') hlen hxy hp hq xs.length 0 (by omega) σ h0 h1 h12 h13)
    simp only [List.drop_zero, Int.natCast_zero] at L
    have hb : ((xs.length : Int) != (ys.length : Int)) = false := by simp [hxy]
    cases hE : eqN xs ys
    · rw [hE] at L
      simp only [Bool.false_eq_true, if_false, true_implies] at L
      rw [ev_call c105]; unfold k105; rw [evB_eq rfl]
      simp (maxSteps := 4000000) (disch := first | omega | (refine _root_.id ?_; simp only [pl_int, pl_bool, pl_str, pl_undef, pl_nil, pl_ptr, plA_c, plA_agg, plA_tup, plV_c, plV_agg, List.all_cons, List.all_nil, Bool.and_true, Bool.and_self, eq_self, vi_int, vi_bool, get_app, get_app0, List.getElem?_cons_zero, List.getElem?_cons_succ, Option.join_some, lst_get, getL, upd_at, upd_ne, Nat.reduceBEq])) only [evC_skip, evC_region, evC_seq, evC_block, ev_t, ev_k, putS_some, upd_l, ops_nil, evC_condC, cond_bool, ops_cons, next_some, then_norm, then_ret, out_ret, done_ret, putL, getL, Option.bind_some, Option.map_some, evalOp, ↓reduceIte, reduceCtorEq, binA, binC, intBin, or_false, or_true, evalRs, evalR, AV.toV0?, mkRes, V0.toAV, lst_get, eq_self, finish_id, Bool.false_eq_true, hb, (fun σ h0 h1 h12 h13 => (L σ h0 h1 h12 h13).1), (fun σ h0 h1 h12 h13 => (L σ h0 h1 h12 h13).2)]
    · rw [hE] at L
      simp only [if_true] at L
      rw [ev_call c105]; unfold k105; rw [evB_eq rfl]
      simp (maxSteps := 4000000) (disch := first | omega | (refine _root_.id ?_; simp only [pl_int, pl_bool, pl_str, pl_undef, pl_nil, pl_ptr, plA_c, plA_agg, plA_tup, plV_c, plV_agg, List.all_cons, List.all_nil, Bool.and_true, Bool.and_self, eq_self, vi_int, vi_bool, get_app, get_app0, List.getElem?_cons_zero, List.getElem?_cons_succ, Option.join_some, lst_get, getL, upd_at, upd_ne, Nat.reduceBEq])) only [evC_skip, evC_ret, evC_region, evC_seq, evC_block, ev_t, ev_k, putS_some, upd_l, ops_nil, evC_condC, cond_bool, ops_cons, next_some, then_norm, out_exit, done_ret, putL, getL, Option.bind_some, Option.map_some, evalOp, ↓reduceIte, reduceCtorEq, binA, binC, intBin, or_false, or_true, evalRs, evalR, AV.toV0?, mkRes, V0.toAV, lst_get, eq_self, finish_id, Bool.false_eq_true, upd_at, hb, (fun σ h0 h1 h12 h13 => (L σ h0 h1 h12 h13).1)]
  · have hb : ((xs.length : Int) != (ys.length : Int)) = true := by simp; omega
    rw [eqN_ne hxy]
    rw [ev_call c105]; unfold k105; rw [evB_eq rfl]
    simp (maxSteps := 4000000) (disch := first | omega | (refine _root_.id ?_; simp only [pl_int, pl_bool, pl_str, pl_undef, pl_nil, pl_ptr, plA_c, plA_agg, plA_tup, plV_c, plV_agg, List.all_cons, List.all_nil, Bool.and_true, Bool.and_self, eq_self, vi_int, vi_bool, get_app, get_app0, List.getElem?_cons_zero, List.getElem?_cons_succ, Option.join_some, lst_get, getL, upd_at, upd_ne, Nat.reduceBEq])) only [evC_ret, evC_region, evC_seq, ev_t, ev_k, putS_some, upd_l, ops_nil, evC_condC, cond_bool, ops_cons, next_some, then_norm, then_ret, done_ret, putL, getL, Option.bind_some, Option.map_some, evalOp, ↓reduceIte, reduceCtorEq, binA, binC, intBin, or_false, or_true, evalRs, evalR, AV.toV0?, mkRes, V0.toAV, lst_get, eq_self, finish_id, hb]
end Go.Proofs.Ytnblibimbggheaa
