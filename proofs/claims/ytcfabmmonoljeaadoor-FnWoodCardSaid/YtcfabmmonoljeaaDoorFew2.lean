/- What functions of the program answer: parts Few2 W2. -/
import Derived.Test.YtcfabmmonoljeaaDoorFew1
import Derived.Test.YtcfabmmonoljeaaDoorWay
import Derived.Test.YtcfabmmonoljeaaDoorAll
import Derived.Test.YtcfabmmonoljeaaDoorTam2
import Derived.Test.YtcfabmmonoljeaaDoorCopies
import Derived.Test.YtcfabmmonoljeaaDoorLies
/- What functions of the program answer: part Few2. -/
set_option linter.unusedVariables false
set_option linter.unusedSimpArgs false
set_option linter.unusedSectionVars false
namespace Go.Proofs.YtcfabmmonoljeaaDoor
open Go Go.Proofs.YtcfabmmonoljeaaDoor.VI
set_option maxHeartbeats 16000000
set_option maxRecDepth 20000
theorem run22 {h : Hf} {H : AHeap} (hh : HfAt H h) (ok : okF h = true) : ev kk 22 [.agg (hfr h)] H = some (.tup [.c (.int .i64 (sumN h.xs)), .c (.int .i64 0)], H) := by
  have hA := hh.app [hfb h]
  have r57 := v66 hA (by rw [get_app0]; rfl)
  rw [ok] at r57
  have s1 := run51 ok hA
  have hR1 : (hfr h)[1]? = some (.slice h.p h.xs.length h.cap) := rfl
  rw [ev_call c22]; unfold k22; rw [evB_eq rfl]
  obtain ⟨R, hR⟩ : ∃ R, R = hfr h := ⟨_, rfl⟩
  simp only [hfb, ← hR] at r57 s1 hR1 ⊢
  simp (maxSteps := 4000000) (disch := first | omega | (refine _root_.id ?_; simp only [pl_int, pl_bool, pl_str, pl_undef, pl_nil, pl_ptr, plA_c, plA_agg, plA_tup, plV_c, plV_agg, List.all_cons, List.all_nil, Bool.and_true, Bool.and_self, eq_self, vi_int, vi_bool, get_app, get_app0, List.getElem?_cons_zero, List.getElem?_cons_succ, Option.join_some, lst_get, getL, upd_at, upd_ne, Nat.reduceBEq])) only [evC_skip, evC_ret, evC_region, evC_seq, ev_t, ev_k, putS_some, upd_l, ops_nil, evC_condC, cond_bool, ops_cons, next_some, then_norm, done_ret, putL, getL, Option.bind_some, Option.map_some, evalOp, AV.cells?, readCell, get_app0, List.getElem?_cons_zero, Option.join_some, Nat.zero_add, ↓reduceIte, evalRs, evalR, AV.toV0?, mkRes, V0.toAV, lst_get, eq_self, finish_app, Bool.not_true, Bool.false_eq_true, List.map_cons, List.map_nil, List.append_nil, unA, r57, hR1, s1]
theorem eq_tms {t : Tm} : eqCells [.int, .int, .int, .int] (trow t) (trow t) = some true := by simp [eqCells, eqC]
theorem loop10 {p q : Option (Nat × Nat)} {cap cap' : Cap} {ts : List Tm} (hlen : ts.length ≤ 4398046511104) {H : AHeap} (hp : Tts H p ts) (hq : Tts H q ts) : ∀ (n i : Nat) (_ : i + n = ts.length) (σ : Sl) (_ : σ 0 = .c (.slice p ts.length cap)) (_ : σ 1 = .c (.slice q ts.length cap')) (_ : σ 5 = .c (.int .i64 i)),
    Post (evC (ev kk) (.loop l10_0) (σ, H)) fun ex σ' H' => ex = .exit 0 ∧ H' = H
  | 0, i, hi, σ, h0, h1, h5 => by
    have hge : ¬ ((i : Int) < ts.length) := by omega
    rw [evC_loop]
    simp only [evC_exit, evC_region, evC_seq, ev_t, putS_some, ops_nil, evC_condC, cond_bool, ops_cons, next_some, then_norm, then_exit, Option.map_some, evalOp, ↓reduceIte, reduceCtorEq, binA, binC, intBin, or_false, or_true, decide_false, and_self, eq_self, Bool.false_eq_true, Nat.reduceBEq, post_some, upd_at, upd_ne, l10_0, h0, h5, hge]
  | n + 1, i, hi, σ, h0, h1, h5 => by
    have hil : i < ts.length := by omega
    have hlt : (i : Int) < ts.length := by omega
    obtain ⟨id, t, m, rfl, hb⟩ := hp (by omega)
    obtain ⟨id', t', m', rfl, hb'⟩ := hq (by omega)
    have hle : i * 4 + 4 ≤ (trows ts).length := by rw [trowl]; omega
    rw [evC_loop]
    simp (maxSteps := 4000000) (disch := first | omega | (refine _root_.id ?_; simp only [pl_int, pl_bool, pl_str, pl_undef, pl_nil, pl_ptr, plA_c, plA_agg, plA_tup, plV_c, plV_agg, List.all_cons, List.all_nil, Bool.and_true, Bool.and_self, eq_self, vi_int, vi_bool, get_app, get_app0, List.getElem?_cons_zero, List.getElem?_cons_succ, Option.join_some, lst_get, getL, upd_at, upd_ne, Nat.reduceBEq])) only [evC_skip, evC_region, evC_seq, evC_block, ev_t, ev_k, putS_some, ops_nil, evC_condC, cond_bool, ops_cons, next_some, nextD_some, then_norm, out_norm, Option.map_some, evalOp, readCells, Nat.zero_add, ↓reduceIte, reduceCtorEq, binA, binC, intBin, or_false, or_true, decide_true, and_self, eq_self, IntWalk.i64_in, Bool.not_true, Bool.false_eq_true, eqRes, evC_drawn, dr_nil, dr_cons, chk_nil, upd_at, upd_ne, cast_nonneg, cast_toNat, l10_0, h0, h1, h5, hlt, hb, hb', hle, trc hil, eq_tms]
    exact loop10 (cap := cap) (cap' := cap') hlen hp hq n (i + 1) (by omega) _ (by simp only [upd_ne, Nat.reduceBEq, h0]) (by simp only [upd_ne, Nat.reduceBEq, h1]) (by simp only [upd_at]; rfl)
theorem sameTs {K : AHeap} {c c' : CV} {ts : List Tm} (few : ts.length ≤ 4398046511104) (h : TsAt K c ts) (h' : TsAt K c' ts) : ev kk 10 [.c c, .c c'] K = some (.c (.bool true), K) := by
  obtain ⟨p, cap, rfl, h1⟩ := h
  obtain ⟨q, cap', rfl, h2⟩ := h'
  have L : ∀ (σ : Sl), σ 0 = .c (.slice p ts.length cap) → σ 1 = .c (.slice q ts.length cap') → σ 5 = .c (.int .i64 0) → _ := fun σ h0 h3 h4 => loop10 few h1 h2 ts.length 0 (by omega) σ h0 h3 h4
  obtain ⟨_, σ', _, eL, rfl, rfl⟩ := L (lst [.c (.slice p ts.length cap), .c (.slice q ts.length cap'), .c .undef, .c .undef, .c (.bool false), .c (.int .i64 0), .c (.slice p ts.length cap), .c (.int .i64 ts.length), .c (.slice q ts.length cap'), .c (.int .i64 ts.length), .c (.bool false)]) rfl rfl rfl
  rw [ev_call c10]; unfold k10; rw [evB_eq rfl]
  simp (maxSteps := 4000000) (disch := first | omega | (refine _root_.id ?_; simp only [pl_int, pl_bool, pl_str, pl_undef, pl_nil, pl_ptr, plA_c, plA_agg, plA_tup, plV_c, plV_agg, List.all_cons, List.all_nil, Bool.and_true, Bool.and_self, eq_self, vi_int, vi_bool, get_app, get_app0, List.getElem?_cons_zero, List.getElem?_cons_succ, Option.join_some, lst_get, getL, upd_at, upd_ne, Nat.reduceBEq])) only [evC_skip, evC_ret, evC_region, evC_seq, evC_block, ev_t, ev_k, putS_some, upd_l, ops_nil, evC_condC, cond_bool, ops_cons, next_some, then_norm, out_exit, done_ret, putL, getL, Option.bind_some, Option.map_some, evalOp, ↓reduceIte, reduceCtorEq, binA, binC, intBin, or_false, or_true, evalRs, evalR, AV.toV0?, mkRes, V0.toAV, lst_get, eq_self, finish_id, Bool.false_eq_true, bne_self_eq_false, upd_at, eL, upd_at]
end Go.Proofs.YtcfabmmonoljeaaDoor

/- What functions of the program answer: part W2. -/
set_option linter.unusedVariables false
set_option linter.unusedSimpArgs false
set_option linter.unusedSectionVars false
namespace Go.Proofs.YtcfabmmonoljeaaDoor
open Go Go.Proofs.YtcfabmmonoljeaaDoor.VI
set_option maxHeartbeats 16000000
set_option maxRecDepth 20000
/-! Wood and sameness -/
theorem run15 {p : Option (Nat × Nat)} {cap : Cap} {xs : List Nt} {st : Bool} {g : List Int} (hg : g.length = 16) (hlen : xs.length ≤ 4398046511104) (hr : ∀ x ∈ xs, rngN x) {H : AHeap} (hp : Nts H p xs) : ev kk 15 [.agg (hrow st p xs.length cap g)] H = some (.tup [.agg (wrow (woR xs g)), .c (.int .i64 (woC xs g))], H) := by
  have r70 := fun T => run19 (cap := cap) (st := st) hg hlen hr (hp.app T)
  have hgl : (grow g).length = 16 := by rw [List.length_map]; exact hg
  have hgt : List.take 16 (grow g) = grow g := List.take_of_length_le (by omega)
  unfold woR woC
  by_cases h : okH xs g = true
  · obtain ⟨h1, h2, h3⟩ := okH_p h
    have r71 := fun T => run40 (cap := cap) (st := st) hg hlen hr h2 (hp.app T)
    have hw4 := wdL_len xs [0, 0, 0, 0]
    rw [if_pos h, if_pos h]
    generalize wdL xs [0, 0, 0, 0] = w at *
    match w, hw4 with
    | [a, b, c, d], _ =>
      simp only [wrow, List.map_cons, List.map_nil] at r71
      rw [ev_call c15]; unfold k15; rw [evB_eq rfl]
      simp (maxSteps := 4000000) (disch := first | omega | (refine _root_.id ?_; simp only [pl_int, pl_bool, pl_str, pl_undef, pl_nil, pl_ptr, plA_c, plA_agg, plA_tup, plV_c, plV_agg, List.all_cons, List.all_nil, Bool.and_true, Bool.and_self, eq_self, vi_int, vi_bool, get_app, get_app0, List.getElem?_cons_zero, List.getElem?_cons_succ, Option.join_some, lst_get, getL, upd_at, upd_ne, Nat.reduceBEq])) only [evC_skip, evC_ret, evC_region, evC_seq, ev_t, ev_k, putS_some, upd_l, putS_none, ops_nil, evC_condC, cond_bool, ops_cons, next_some, then_norm, done_ret, putL, getL, Option.bind_some, Option.map_some, evalOp, AV.cells?, readCells, writeCells, get_app, get_app0, set_app, len_app, List.getElem?_cons_zero, List.getElem?_cons_succ, Option.join_some, List.length_cons, List.length_nil, List.append_assoc, List.cons_append, List.nil_append, Nat.zero_add, Nat.reduceAdd, List.drop_zero, List.drop_succ_cons, List.take_zero, List.take_succ_cons, List.take_nil, List.drop_nil, ↓reduceIte, evalRs, evalR, AV.toV0?, mkRes, V0.toAV, and_self, lst_get, eq_self, finish_app, List.all_cons, List.all_nil, Bool.and_true, Bool.not_true, Bool.false_eq_true, List.map_cons, List.map_nil, List.append_nil, setAt, CV.ok, List.set_cons_zero, List.set_cons_succ, unA, hgl, hgt, r70, h, r71, wrow, Nat.le_refl]
  · have h : okH xs g = false := by simpa using h
    rw [h, if_neg (by simp), if_neg (by simp)]
    rw [ev_call c15]; unfold k15; rw [evB_eq rfl]
    simp (maxSteps := 4000000) (disch := first | omega | (refine _root_.id ?_; simp only [pl_int, pl_bool, pl_str, pl_undef, pl_nil, pl_ptr, plA_c, plA_agg, plA_tup, plV_c, plV_agg, List.all_cons, List.all_nil, Bool.and_true, Bool.and_self, eq_self, vi_int, vi_bool, get_app, get_app0, List.getElem?_cons_zero, List.getElem?_cons_succ, Option.join_some, lst_get, getL, upd_at, upd_ne, Nat.reduceBEq])) only [evC_ret, evC_region, evC_seq, ev_t, ev_k, putS_some, upd_l, putS_none, ops_nil, evC_condC, cond_bool, ops_cons, next_some, then_norm, then_ret, done_ret, putL, getL, Option.bind_some, Option.map_some, evalOp, AV.cells?, readCells, writeCells, get_app, get_app0, set_app, len_app, List.getElem?_cons_zero, List.getElem?_cons_succ, Option.join_some, List.length_cons, List.length_nil, List.append_assoc, List.cons_append, List.nil_append, Nat.zero_add, Nat.reduceAdd, List.drop_zero, List.drop_succ_cons, List.take_zero, List.take_succ_cons, List.take_nil, List.drop_nil, ↓reduceIte, evalRs, evalR, AV.toV0?, mkRes, V0.toAV, and_self, lst_get, eq_self, finish_app, List.all_cons, List.all_nil, Bool.and_true, Bool.not_false, List.map_cons, List.map_nil, List.append_nil, setAt, CV.ok, List.set_cons_zero, List.set_cons_succ, unA, partsA, fillC, hgl, hgt, r70, h, wrow, Nat.le_refl]
section
variable {x y : Hf} {H : AHeap}
theorem run23 (hx : HfAt H x) (hy : HfAt H y) : ev kk 23 [.agg (hfr x), .agg (hfr y)] H = some (.tup [.c (.bool (cbB x y)), .c (.int .i64 (cbC x y))], H) := by
  have a1 := fun T => v70 (hx.app T)
  have a2 := fun T => v70 (hy.app T)
  unfold cbB cbC
  cases h1 : okF x
  · rw [h1] at a1
    rw [ev_call c23]; unfold k23; rw [evB_eq rfl]
    simp (maxSteps := 4000000) (disch := first | omega | (refine _root_.id ?_; simp only [pl_int, pl_bool, pl_str, pl_undef, pl_nil, pl_ptr, plA_c, plA_agg, plA_tup, plV_c, plV_agg, List.all_cons, List.all_nil, Bool.and_true, Bool.and_self, eq_self, vi_int, vi_bool, get_app, get_app0, List.getElem?_cons_zero, List.getElem?_cons_succ, Option.join_some, lst_get, getL, upd_at, upd_ne, Nat.reduceBEq])) only [evC_ret, evC_region, evC_seq, ev_t, ev_k, putS_some, upd_l, ops_nil, ops_consg, guard_bool, evC_condC, cond_bool, ops_cons, next_some, then_norm, then_ret, done_ret, putL, getL, Option.bind_some, Option.map_some, evalOp, AV.cells?, readCells, get_app0, len_app, List.getElem?_cons_zero, Option.join_some, List.length_cons, List.length_nil, List.append_assoc, List.cons_append, List.nil_append, Nat.zero_add, Nat.reduceAdd, List.drop_zero, List.take_succ_cons, ↓reduceIte, evalRs, evalR, AV.toV0?, mkRes, V0.toAV, lst_get, eq_self, finish_app, Bool.not_false, Bool.true_eq_false, Bool.false_eq_true, List.map_cons, List.map_nil, List.append_nil, unA, gl, gt, a1, Bool.false_and, Nat.le_refl]
  · rw [h1] at a1
    cases h2 : okF y
    · rw [h2] at a2
      rw [ev_call c23]; unfold k23; rw [evB_eq rfl]
      simp (maxSteps := 4000000) (disch := first | omega | (refine _root_.id ?_; simp only [pl_int, pl_bool, pl_str, pl_undef, pl_nil, pl_ptr, plA_c, plA_agg, plA_tup, plV_c, plV_agg, List.all_cons, List.all_nil, Bool.and_true, Bool.and_self, eq_self, vi_int, vi_bool, get_app, get_app0, List.getElem?_cons_zero, List.getElem?_cons_succ, Option.join_some, lst_get, getL, upd_at, upd_ne, Nat.reduceBEq])) only [evC_ret, evC_region, evC_seq, ev_t, ev_k, putS_some, upd_l, ops_nil, ops_consg, guard_bool, evC_condC, cond_bool, ops_cons, next_some, then_norm, then_ret, done_ret, putL, getL, Option.bind_some, Option.map_some, evalOp, AV.cells?, readCells, get_app, get_app0, len_app, List.getElem?_cons_zero, List.getElem?_cons_succ, Option.join_some, List.length_cons, List.length_nil, List.append_assoc, List.cons_append, List.nil_append, Nat.zero_add, Nat.reduceAdd, List.drop_zero, List.take_succ_cons, ↓reduceIte, evalRs, evalR, AV.toV0?, mkRes, V0.toAV, lst_get, eq_self, finish_app, Bool.not_true, Bool.not_false, Bool.false_eq_true, List.map_cons, List.map_nil, List.append_nil, unA, gl, gt, a1, a2, Bool.false_and, Bool.and_false, Nat.le_refl]
    · rw [h2] at a2
      have b1 := fun T => v71 (hx.app T) h1
      have b2 := fun T => v71 (hy.app T) h2
      have r87 := fun H => run20 (wdF_len (h := x)) (wdF_len (h := y)) H
      cases h3 : (x.st == y.st)
      · rw [ev_call c23]; unfold k23; rw [evB_eq rfl]
        simp (maxSteps := 4000000) (disch := first | omega | (refine _root_.id ?_; simp only [pl_int, pl_bool, pl_str, pl_undef, pl_nil, pl_ptr, plA_c, plA_agg, plA_tup, plV_c, plV_agg, List.all_cons, List.all_nil, Bool.and_true, Bool.and_self, eq_self, vi_int, vi_bool, get_app, get_app0, List.getElem?_cons_zero, List.getElem?_cons_succ, Option.join_some, lst_get, getL, upd_at, upd_ne, Nat.reduceBEq])) only [evC_skip, evC_ret, evC_region, evC_seq, ev_t, ev_k, putS_some, upd_l, ops_nil, ops_consg, guard_bool, evC_condC, cond_bool, ops_cons, next_some, nextD_some, then_norm, done_ret, putL, getL, Option.bind_some, Option.map_some, evalOp, AV.cells?, readCells, readCell, get_app, get_app0, len_app, List.getElem?_cons_zero, List.getElem?_cons_succ, Option.join_some, List.length_cons, List.length_nil, List.append_assoc, List.cons_append, List.nil_append, Nat.zero_add, Nat.add_zero, Nat.reduceAdd, List.drop_zero, List.take_succ_cons, ↓reduceIte, binA, binC, evalRs, evalR, AV.toV0?, mkRes, V0.toAV, lst_get, eq_self, finish_app, Bool.and_true, Bool.not_true, Bool.false_eq_true, List.map_cons, List.map_nil, List.append_nil, eqRes, evC_drawn, dr_nil, dr_cons, chk_nil, unA, chkg_bool, chk_consg, gl, gt, a1, a2, h3, Bool.false_and, Bool.and_false, Nat.le_refl]
      · rw [ev_call c23]; unfold k23; rw [evB_eq rfl]
        simp (maxSteps := 4000000) (disch := first | omega | (refine _root_.id ?_; simp only [pl_int, pl_bool, pl_str, pl_undef, pl_nil, pl_ptr, plA_c, plA_agg, plA_tup, plV_c, plV_agg, List.all_cons, List.all_nil, Bool.and_true, Bool.and_self, eq_self, vi_int, vi_bool, get_app, get_app0, List.getElem?_cons_zero, List.getElem?_cons_succ, Option.join_some, lst_get, getL, upd_at, upd_ne, Nat.reduceBEq])) only [evC_skip, evC_ret, evC_region, evC_seq, ev_t, ev_k, putS_some, upd_l, ops_nil, ops_consg, guard_bool, evC_condC, cond_bool, ops_cons, next_some, nextD_some, then_norm, done_ret, putL, getL, Option.bind_some, Option.map_some, evalOp, AV.cells?, readCells, readCell, get_app, get_app0, len_app, List.getElem?_cons_zero, List.getElem?_cons_succ, Option.join_some, List.length_cons, List.length_nil, List.append_assoc, List.cons_append, List.nil_append, Nat.zero_add, Nat.add_zero, Nat.reduceAdd, List.drop_zero, List.take_succ_cons, ↓reduceIte, binA, binC, evalRs, evalR, AV.toV0?, mkRes, V0.toAV, lst_get, eq_self, finish_app, Bool.and_true, Bool.true_and, Bool.not_true, Bool.false_eq_true, List.map_cons, List.map_nil, List.append_nil, eqRes, evC_drawn, dr_nil, dr_cons, chk_nil, re_same, unA, chkg_bool, chk_consg, gl, gt, a1, a2, h3, b1, b2, r87, Nat.le_refl]
end
theorem eq_grow' {g : List Int} (hg : g.length = 16) : eqCells [.int, .int, .int, .int, .int, .int, .int, .int, .int, .int, .int, .int, .int, .int, .int, .int] (grow g) (grow g) = some true := by
  match g, hg with
  | [a0, a1, a2, a3, a4, a5, a6, a7, a8, a9, a10, a11, a12, a13, a14, a15], _ => simp [eqCells, eqC, grow]
theorem eqN_self : ∀ {xs : List Nt}, eqN xs xs = true
  | [] => by simp [eqN]
  | x :: xs => by simp [eqN]
theorem run46s {x y : Hf} {H : AHeap} (hx : HfAt H x) (hy : HfAt H y) (e : x.pr = y.pr) {i j : Nat} {t u : TypeId} {m n : BM} (hi : H.get i = some ⟨t, hfr x, m⟩) (hj : H.get j = some ⟨u, hfr y, n⟩) : ev kk 46 [.c (.ptr (some (i, 0))), .c (.ptr (some (j, 0)))] H = some (.c (.bool true), H) := by
  obtain ⟨xst, xp, xc, xx, xg, xg16⟩ := x
  obtain ⟨yst, yp, yc, yx, yg, yg16⟩ := y
  have e1 : xst = yst := congrArg Pr.st e
  have e2 : xx = yx := congrArg Pr.xs e
  have e3 : xg = yg := congrArg Pr.g e
  subst e1; subst e2; subst e3
  have r76 := run76 (cap := xc) (cap' := yc) hx.few hy.few hx.at_ hy.at_
  rw [eqN_self] at r76
  have hgl : (grow xg).length = 16 := by rw [List.length_map]; exact xg16
  have hgt : List.take 16 (grow xg) = grow xg := List.take_of_length_le (by omega)
  have hq := eq_grow' xg16
  have hst : (xst == xst) = true := beq_self_eq_true _
  simp only [hfr, hrow] at hi hj
  rw [ev_call c46]; unfold k46; rw [evB_eq rfl]
  obtain ⟨G, hG⟩ : ∃ G, G = grow xg := ⟨_, rfl⟩
  rw [← hG] at hgl hgt hq hi hj
  simp (maxSteps := 4000000) (disch := first | omega | (refine _root_.id ?_; simp only [pl_int, pl_bool, pl_str, pl_undef, pl_nil, pl_ptr, plA_c, plA_agg, plA_tup, plV_c, plV_agg, List.all_cons, List.all_nil, Bool.and_true, Bool.and_self, eq_self, vi_int, vi_bool, get_app, get_app0, List.getElem?_cons_zero, List.getElem?_cons_succ, Option.join_some, lst_get, getL, upd_at, upd_ne, Nat.reduceBEq])) only [evC_ret, evC_region, evC_seq, ev_t, ev_k, putS_some, upd_l, ops_nil, ops_consg, guard_bool, ops_cons, next_some, nextD_some, then_norm, done_ret, putL, getL, Option.bind_some, Option.map_some, evalOp, readCells, readCell, List.getElem?_cons_zero, List.getElem?_cons_succ, List.length_cons, Nat.zero_add, Nat.add_zero, Nat.reduceAdd, List.drop_zero, List.drop_succ_cons, ↓reduceIte, binA, binC, evalRs, evalR, AV.toV0?, mkRes, V0.toAV, lst_get, eq_self, finish_id, beq_self_eq_true, List.map_cons, List.map_nil, List.append_nil, eqRes, evC_drawn, dr_nil, dr_cons, chk_nil, hi, hj, hgl, hgt, hq, r76, Nat.le_refl]
theorem run18s {x y : Hf} {H : AHeap} (hx : HfAt H x) (hy : HfAt H y) (e : x.pr = y.pr) : ev kk 18 [.agg (hfr x), .agg (hfr y)] H = some (.c (.bool true), H) := by
  have r46 := run46s (hx.app [hfb x, hfb y]) (hy.app [hfb x, hfb y]) e (i := H.length) (j := H.length + 1) (t := 29) (u := 29) (m := .own) (n := .own) (by rw [get_app0]; rfl) (by rw [get_app]; rfl)
  rw [ev_call c18]; unfold k18; rw [evB_eq rfl]
  obtain ⟨R, hR⟩ : ∃ R, R = hfr x := ⟨_, rfl⟩
  obtain ⟨S, hS⟩ : ∃ S, S = hfr y := ⟨_, rfl⟩
  simp only [hfb, ← hR, ← hS] at r46 ⊢
  simp (maxSteps := 4000000) (disch := first | omega | (refine _root_.id ?_; simp only [pl_int, pl_bool, pl_str, pl_undef, pl_nil, pl_ptr, plA_c, plA_agg, plA_tup, plV_c, plV_agg, List.all_cons, List.all_nil, Bool.and_true, Bool.and_self, eq_self, vi_int, vi_bool, get_app, get_app0, List.getElem?_cons_zero, List.getElem?_cons_succ, Option.join_some, lst_get, getL, upd_at, upd_ne, Nat.reduceBEq])) only [evC_ret, evC_region, evC_seq, ev_t, ev_k, putS_some, upd_l, ops_nil, ops_cons, next_some, then_norm, done_ret, putL, getL, Option.bind_some, Option.map_some, evalOp, AV.cells?, len_app, List.length_cons, List.length_nil, List.append_assoc, List.cons_append, List.nil_append, Nat.zero_add, evalRs, evalR, AV.toV0?, mkRes, V0.toAV, lst_get, eq_self, finish_app, List.map_cons, List.map_nil, List.append_nil, r46]
end Go.Proofs.YtcfabmmonoljeaaDoor
