/- What functions of the program answer: part Tam2. -/
import Derived.Test.YtcfabmmonoljeaaDoorTam
set_option linter.unusedVariables false
set_option linter.unusedSimpArgs false
set_option linter.unusedSectionVars false
namespace Go.Proofs.YtcfabmmonoljeaaDoor
open Go Go.Proofs.YtcfabmmonoljeaaDoor.VI
set_option maxHeartbeats 16000000
set_option maxRecDepth 20000
theorem run84 {p : Option (Nat × Nat)} {cap : Cap} {xs : List Nt} (hlen : xs.length ≤ 4398046511104) {H : AHeap} (hp : Nts H p xs) : ∃ c J, ev kk 84 [.c (.slice p xs.length cap)] H = some (.c c, J) ∧ Pre H J ∧ CloneOf H J c xs := by
  rw [ev_call c84]; unfold k84; rw [evB_eq rfl]
  by_cases h0 : 0 < xs.length
  · obtain ⟨id, t, m, rfl, hb⟩ := hp h0
    have hz := apnd_new (H := H ++ [some ⟨91, [], .own⟩]) (q := some (H.length, 0)) (e := 91) (size := 2) (bytes := 4) (cap := cap) (by rw [get_appl (get_some_lt hb)]; exact hb) h0 nrowl (by omega) nrows_ok
    simp (maxSteps := 4000000) (disch := first | omega | (refine _root_.id ?_; simp only [pl_int, pl_bool, pl_str, pl_undef, pl_nil, pl_ptr, plA_c, plA_agg, plA_tup, plV_c, plV_agg, List.all_cons, List.all_nil, Bool.and_true, Bool.and_self, eq_self, vi_int, vi_bool, get_app, get_app0, List.getElem?_cons_zero, List.getElem?_cons_succ, Option.join_some, lst_get, getL, upd_at, upd_ne, Nat.reduceBEq])) only [evC_ret, evC_region, evC_seq, ev_t, ev_k, putS_some, upd_l, ops_nil, ops_cons, next_some, then_norm, done_ret, putL, getL, Option.bind_some, Option.map_some, evalOp, len_app, List.length_cons, List.length_nil, List.append_assoc, List.cons_append, List.nil_append, Nat.zero_add, evalRs, evalR, AV.toV0?, mkRes, V0.toAV, lst_get, partsA, fillC, finish_no, hz]
    exact ⟨_, _, rfl, pre_app, .inr ⟨h0, H.length + 1, rfl, by omega, by rw [get_app]; rfl⟩⟩
  · have hx : xs = [] := by cases xs with
      | nil => rfl
      | cons x xs => simp at h0
    subst hx
    have hz : appendA (H ++ [some ⟨91, [], .own⟩]) 91 2 4 (.c (.slice (some (H.length, 0)) 0 (.exact 0))) (.c (.slice p 0 cap)) = some (.c (.slice (some (H.length, 0)) 0 (.exact 0)), H ++ [some ⟨91, [], .own⟩]) := by
      cases p <;> simp [appendA, srcCells]
    simp (maxSteps := 4000000) (disch := first | omega | (refine _root_.id ?_; simp only [pl_int, pl_bool, pl_str, pl_undef, pl_nil, pl_ptr, plA_c, plA_agg, plA_tup, plV_c, plV_agg, List.all_cons, List.all_nil, Bool.and_true, Bool.and_self, eq_self, vi_int, vi_bool, get_app, get_app0, List.getElem?_cons_zero, List.getElem?_cons_succ, Option.join_some, lst_get, getL, upd_at, upd_ne, Nat.reduceBEq])) only [evC_ret, evC_region, evC_seq, ev_t, ev_k, putS_some, upd_l, ops_nil, ops_cons, next_some, then_norm, done_ret, putL, getL, Option.bind_some, Option.map_some, evalOp, List.length_nil, evalRs, evalR, AV.toV0?, mkRes, V0.toAV, lst_get, partsA, fillC, finish_no, List.length_nil, hz]
    exact ⟨_, _, rfl, pre_app, .inl ⟨rfl, .inr ⟨_, rfl⟩⟩⟩
theorem run71 {h : Hf} {H : AHeap} (hh : HfAt H h) {b : Nat} {e : TypeId} {m : BM} (hb : H.get b = some ⟨e, hfr h, m⟩) : ∃ y J, ev kk 71 [.c (.ptr (some (b, 0)))] H = some (.agg (hfr y), J) ∧ Pre H J ∧ y.pr = h.pr ∧ HfNw H J y := by
  have lb := get_some_lt hb
  obtain ⟨c, J, e1, p1, hcl⟩ := run84 (cap := h.cap) hh.few (hh.at_.app [zbl])
  have hbJ := p1.get (show AHeap.get (H ++ [zbl]) b = _ by rw [get_appl lb]; exact hb)
  have b1 := p1.get (show AHeap.get (H ++ [zbl]) H.length = zbl by rw [get_app0]; rfl)
  have lt1 : H.length < J.length := get_some_lt b1
  obtain ⟨q, cp, rfl, n1⟩ := hcl.isC
  rw [ev_call c71]; unfold k71; rw [evB_eq rfl]
  simp (maxSteps := 4000000) (disch := first | omega | (refine _root_.id ?_; simp only [pl_int, pl_bool, pl_str, pl_undef, pl_nil, pl_ptr, plA_c, plA_agg, plA_tup, plV_c, plV_agg, List.all_cons, List.all_nil, Bool.and_true, Bool.and_self, eq_self, vi_int, vi_bool, get_app, get_app0, List.getElem?_cons_zero, List.getElem?_cons_succ, Option.join_some, lst_get, getL, upd_at, upd_ne, Nat.reduceBEq])) only [evC_ret, evC_region, evC_seq, ev_t, ev_k, putS_some, upd_l, putS_none, ops_nil, ops_cons, next_some, nextD_some, then_norm, done_ret, putL, getL, Option.bind_some, Option.map_some, evalOp, AV.cells?, readCells, readCell, writeCells, List.getElem?_cons_zero, List.getElem?_cons_succ, List.length_cons, List.length_nil, List.cons_append, List.nil_append, Nat.zero_add, Nat.add_zero, Nat.reduceAdd, Nat.reduceLeDiff, List.drop_zero, List.drop_succ_cons, List.take_zero, List.take_succ_cons, List.drop_nil, ↓reduceIte, evalRs, evalR, mkRes, V0.toAV, and_self, lst_get, eq_self, List.all_cons, Bool.and_true, List.map_cons, List.map_nil, List.append_nil, setAt, CV.ok, evC_drawn, dr_nil, dr_cons, chk_nil, chk_cons, re_same, partsA, fillC, finish_no, get_appl lb, hb, gl, gt, Nat.le_refl, e1, hbJ, b1, grow_ok, get_set lt1]
  exact ⟨⟨h.st, q, cp, h.xs, h.g, h.g16⟩, _, rfl, (pre_app.trans p1).set (Nat.le_refl _), rfl, hh.few, hh.rng, (n1.setb (by simp)).base pre_app⟩
theorem run38 {h : Hf} {t : Tm} {H : AHeap} (hh : HfAt H h) (ok : okF h = true) (ht : rngT t) {b : Nat} {e : TypeId} {m : BM} (hb : H.get b = some ⟨e, hfr h, m⟩) : ∃ y J, ev kk 38 [.c (.ptr (some (b, 0))), .agg (trow t)] H = some (.tup [.agg (hfr y), .c (.int .i64 (tmR h.pr t).2)], J) ∧ Pre H J ∧ y.pr = (tmR h.pr t).1 ∧ HfNw H J y := by
  have few := okP_few ok
  have lb := get_some_lt hb
  obtain ⟨⟨⟨t1, t2⟩, t3, t4⟩, ⟨t5, t6⟩, t7, t8⟩ := ht
  have hl18 := hfr_len h
  have ht18 : List.take 18 (hfr h) = hfr h := List.take_of_length_le (by omega)
  have hok18 : (hfr h).all CV.ok = true := by simp only [List.all_cons, grow_ok]; rfl
  have r95 := fun T => run69 t.to (H ++ T)
  rw [ev_call c38]; unfold k38; rw [evB_eq rfl]
  by_cases k1 : t.k = 1
  · have q1 : (t.k == 1) = true := by simpa using k1
    by_cases i0 : t.ix = 0
    · have e : tmR h.pr t = cnR h.pr t.to t.at_ := by unfold tmR; rw [if_pos k1, if_pos i0]
      rw [e]
      have q3 : (t.ix != 0) = false := by simpa using i0
      obtain ⟨y, J, e1, p1, y1, y2⟩ := run68 (h := h) (kd := t.to) (a := t.at_) (hh.app [some ⟨37, trow t, .own⟩, zbl]) ok
      have b1 := p1.get (show AHeap.get (H ++ [some ⟨37, trow t, .own⟩, zbl]) (H.length + 1) = zbl by rw [get_app]; rfl)
      have lt1 : H.length + 1 < J.length := get_some_lt b1
      have pJ : Pre H J := pre_app.trans p1
      have hl18y := hfr_len y
      have ht18y : List.take 18 (hfr y) = hfr y := List.take_of_length_le (by omega)
      have hok18y : (hfr y).all CV.ok = true := by simp only [List.all_cons, grow_ok]; rfl
      obtain ⟨R, hR⟩ : ∃ R, R = hfr h := ⟨_, rfl⟩
      obtain ⟨R', hR'⟩ : ∃ R, R = hfr y := ⟨_, rfl⟩
      rw [← hR] at e1 hl18 ht18 hok18 hb
      rw [← hR'] at e1 hl18y ht18y hok18y
      generalize cnR h.pr t.to t.at_ = cr at *
      simp (maxSteps := 4000000) (disch := first | omega | (refine _root_.id ?_; simp only [pl_int, pl_bool, pl_str, pl_undef, pl_nil, pl_ptr, plA_c, plA_agg, plA_tup, plV_c, plV_agg, List.all_cons, List.all_nil, Bool.and_true, Bool.and_self, eq_self, vi_int, vi_bool, get_app, get_app0, List.getElem?_cons_zero, List.getElem?_cons_succ, Option.join_some, lst_get, getL, upd_at, upd_ne, Nat.reduceBEq])) only [evC_skip, evC_ret, evC_region, evC_seq, evC_block, ev_t, ev_k, putS_some, upd_l, putS_none, ops_nil, evC_condC, cond_bool, ops_cons, next_some, nextD_some, then_norm, then_ret, out_ret, done_ret, putL, getL, Option.bind_some, Option.map_some, evalOp, AV.cells?, readCells, readCell, writeCells, get_app0, len_app, List.getElem?_cons_zero, List.getElem?_cons_succ, Option.join_some, List.length_cons, List.length_nil, List.append_assoc, List.cons_append, List.nil_append, Nat.zero_add, Nat.add_zero, Nat.reduceAdd, List.drop_zero, List.drop_succ_cons, List.take_zero, List.drop_nil, ↓reduceIte, reduceCtorEq, binA, binC, intBin, or_false, or_true, evalRs, evalR, AV.toV0?, mkRes, V0.toAV, and_self, lst_get, eq_self, IntWalk.i64_in, Bool.false_eq_true, List.map_cons, List.map_nil, List.append_nil, setAt, evC_drawn, dr_nil, dr_cons, chk_nil, finish_no, q1, q3, get_appl lb, hb, hl18, ht18, Nat.le_refl, e1, b1, hl18y, ht18y, hok18y, get_set lt1]
      exact ⟨y, _, by rw [hR'], (pJ.set (Nat.le_add_right _ 1)), y1, (y2.setb (by simp)).base pre_app⟩
    · have e : tmR h.pr t = (zPr, 2) := by unfold tmR; rw [if_pos k1, if_neg i0]
      rw [e]
      have q3 : (t.ix != 0) = true := by simpa using i0
      simp (maxSteps := 4000000) (disch := first | omega | (refine _root_.id ?_; simp only [pl_int, pl_bool, pl_str, pl_undef, pl_nil, pl_ptr, plA_c, plA_agg, plA_tup, plV_c, plV_agg, List.all_cons, List.all_nil, Bool.and_true, Bool.and_self, eq_self, vi_int, vi_bool, get_app, get_app0, List.getElem?_cons_zero, List.getElem?_cons_succ, Option.join_some, lst_get, getL, upd_at, upd_ne, Nat.reduceBEq])) only [evC_ret, evC_region, evC_seq, evC_block, ev_t, ev_k, putS_some, upd_l, putS_none, ops_nil, evC_condC, cond_bool, ops_cons, next_some, then_norm, then_ret, out_ret, done_ret, putL, getL, Option.bind_some, Option.map_some, evalOp, AV.cells?, readCells, readCell, writeCells, get_app, get_app0, set_app, len_app, List.getElem?_cons_zero, List.getElem?_cons_succ, Option.join_some, List.length_cons, List.length_nil, List.append_assoc, List.cons_append, List.nil_append, Nat.zero_add, Nat.add_zero, Nat.reduceAdd, Nat.reduceLeDiff, List.drop_zero, List.drop_succ_cons, List.take_zero, List.take_succ_cons, List.take_nil, List.drop_nil, ↓reduceIte, reduceCtorEq, binA, binC, intBin, or_false, or_true, evalRs, evalR, AV.toV0?, mkRes, V0.toAV, and_self, lst_get, eq_self, List.all_cons, List.all_nil, Bool.and_true, List.append_nil, setAt, CV.ok, List.set_cons_zero, List.set_cons_succ, partsA, fillC, finish_no, q1, q3]
      exact ⟨zHf, _, rfl, pre_app, rfl, zHf_nw⟩
  · have q1 : (t.k == 1) = false := by simpa using k1
    by_cases k2 : t.k = 2
    · have q2 : (t.k == 2) = true := by simpa using k2
      have eW : tmR h.pr t = wiR h.pr t := by unfold tmR; rw [if_neg k1, if_pos k2]
      rw [eW]
      by_cases a0 : t.at_ = 0
      · have q3 : (t.at_ != 0) = false := by simpa using a0
        by_cases hk : 0 ≤ t.to ∧ t.to ≤ 5
        · by_cases hix : 0 ≤ t.ix ∧ t.ix ≤ (h.xs.length : Int) - 1
          · obtain ⟨i, hi⟩ : ∃ i : Nat, t.ix = (i : Int) := ⟨t.ix.toNat, by omega⟩
            have hil : i < h.xs.length := by omega
            have hC : wiR h.pr t = if t.to ≤ (h.xs[i]'hil).k then (zPr, 4) else if okH (setN h.xs i t.to) h.g = true then (⟨h.st, setN h.xs i t.to, h.g⟩, 0) else (zPr, 4) := by
              unfold wiR
              rw [if_pos ⟨a0, hk, by omega, by simp; omega⟩]
              rw [hi, Int.toNat_natCast, getD_at hil]
            rw [hC]
            have r75 := fun T => run70 t.ix 0 ((h.xs.length : Int) - 1) (H ++ T)
            obtain ⟨y0, J, e1, p1, y1, y2⟩ := run71 (h := h) (hh.app [some ⟨37, trow t, .own⟩, zbl]) (b := b) (by rw [get_appl lb]; exact hb)
            have hyx : y0.xs = h.xs := congrArg Pr.xs y1
            obtain ⟨id, bm, hp, hid, hbl, hbm⟩ := y2.new (by rw [hyx]; omega)
            simp only [List.length_append, List.length_cons, List.length_nil, Nat.zero_add, Nat.reduceAdd] at hid
            rw [hyx] at hbl
            have d0 := p1.get (show AHeap.get (H ++ [some ⟨37, trow t, .own⟩, zbl]) H.length = some ⟨37, trow t, .own⟩ by rw [get_app0]; rfl)
            have d1 := p1.get (show AHeap.get (H ++ [some ⟨37, trow t, .own⟩, zbl]) (H.length + 1) = zbl by rw [get_app]; rfl)
            have lt0 := get_some_lt d0
            have lt1 := get_some_lt d1
            have ltid := get_some_lt hbl
            have pJ : Pre H J := pre_app.trans p1
            have hlt : t.ix < h.xs.length := by omega
            have hge0 : 0 ≤ t.ix := by omega
            have htn : t.ix.toNat = i := by omega
            have hg0 := nr0 hil
            have hs0 := nset1 (v := t.to) hil
            have hle0 : i * 2 + 1 ≤ (nrows h.xs).length := by rw [nrowl]; omega
            have hl180 := hfr_len y0
            have hok180 : (hfr y0).all CV.ok = true := by simp only [List.all_cons, grow_ok]; rfl
            have hc1 : (hfr y0)[1]? = some (.slice (some (id, 0)) h.xs.length y0.cap) := by simp only [hfr, hrow, List.getElem?_cons_succ, List.getElem?_cons_zero, hp, hyx]
            have hdr : List.drop 18 zrow = [] := rfl
            obtain ⟨R0, hR0⟩ : ∃ R, R = hfr y0 := ⟨_, rfl⟩
            rw [← hR0] at e1 hl180 hok180 hc1
            by_cases hto : t.to ≤ (h.xs[i]'hil).k
            · rw [if_pos hto]
              simp (maxSteps := 4000000) (disch := first | omega | (refine _root_.id ?_; simp only [pl_int, pl_bool, pl_str, pl_undef, pl_nil, pl_ptr, plA_c, plA_agg, plA_tup, plV_c, plV_agg, List.all_cons, List.all_nil, Bool.and_true, Bool.and_self, eq_self, vi_int, vi_bool, get_app, get_app0, List.getElem?_cons_zero, List.getElem?_cons_succ, Option.join_some, lst_get, getL, upd_at, upd_ne, Nat.reduceBEq])) only [evC_skip, evC_ret, evC_region, evC_seq, evC_block, ev_t, ev_k, putS_some, upd_l, putS_none, ops_nil, ops_consg, guard_bool, evC_condC, cond_bool, ops_cons, next_some, nextD_some, then_norm, then_ret, out_ret, done_ret, putL, getL, Option.bind_some, Option.map_some, evalOp, AV.cells?, readCells, readCell, writeCells, get_app0, set_app0, len_app, List.getElem?_cons_zero, List.getElem?_cons_succ, Option.join_some, List.length_cons, List.length_nil, List.append_assoc, List.cons_append, List.nil_append, Nat.zero_add, Nat.add_zero, Nat.reduceAdd, List.drop_zero, List.drop_succ_cons, List.take_zero, List.take_succ_cons, List.take_nil, List.drop_nil, ↓reduceIte, reduceCtorEq, binA, binC, intBin, or_false, or_true, evalRs, evalR, AV.toV0?, mkRes, V0.toAV, decide_true, and_self, lst_get, eq_self, IntWalk.i64_in, List.all_cons, List.all_nil, Bool.and_true, Bool.not_true, Bool.false_eq_true, List.map_cons, List.map_nil, List.append_nil, setAt, CV.ok, List.set_cons_zero, evC_drawn, dr_nil, dr_cons, chk_nil, unA, partsA, fillC, finish_no, q1, q2, q3, r95, hk, get_appl lb, hb, r75, hix, e1, hl180, hok180, Nat.le_refl, d0, hc1, hlt, htn, hbl, hg0, hto, d1, get_appl lt0, get_appl lt1, set_appl lt1, get_set_app lt1, get_appl ltid]
              exact ⟨zHf, _, rfl, (pJ.set (Nat.le_add_right _ 1)).app _, rfl, zHf_nw⟩
            · rw [if_neg hto]
              have hsN : setN h.xs i t.to = h.xs.set i ⟨t.to, (h.xs[i]'hil).a⟩ := by unfold setN; rw [getD_at hil]
              obtain ⟨y, hy⟩ : ∃ y : Hf, y = ⟨y0.st, some (id, 0), y0.cap, setN h.xs i t.to, y0.g, y0.g16⟩ := ⟨_, rfl⟩
              have hyr : R0 = hfr y := by rw [hR0, hy]; simp only [hfr, hrow, setN_len, hyx, hp]
              obtain ⟨Y, hY⟩ : ∃ Y : Option Blk, Y = some ⟨91, nrows (h.xs.set i ⟨t.to, (h.xs[i]'hil).a⟩), bm⟩ := ⟨_, rfl⟩
              have fid : AHeap.get (J.set id Y ++ [some ⟨29, R0, .own⟩]) id = some ⟨91, nrows y.xs, bm⟩ := by rw [get_set_app ltid, hY, hy, hsN]
              have f0 : AHeap.get (J.set id Y ++ [some ⟨29, R0, .own⟩]) J.length = some ⟨29, hfr y, .own⟩ := by rw [get_apps0, ← hyr]; rfl
              have f1 : AHeap.get (J.set id Y ++ [some ⟨29, R0, .own⟩]) (H.length + 1) = zbl := by rw [get_appl (by rw [List.length_set]; exact lt1), get_neh (by omega)]; exact d1
              have pY : Pre H (J.set id Y ++ [some ⟨29, R0, .own⟩]) := (pJ.set (by omega)).app _
              have ly1 := get_some_lt f1
              have hyN : HfNw (H ++ [some ⟨37, trow t, .own⟩, zbl]) (J.set id Y ++ [some ⟨29, R0, .own⟩]) y := ⟨by rw [hy]; dsimp only; rw [setN_len]; omega, by rw [hy]; exact setN_rng hil hh.rng ⟨t3, t4⟩, fun _ => ⟨id, bm, by rw [hy], by simp; omega, fid, hbm⟩⟩
              have r57 := v66 hyN.at_ f0
              have hyo : okH (setN h.xs i t.to) h.g = okF y := by unfold okF; rw [hy]; dsimp only; rw [show y0.g = h.g from congrArg Pr.g y1]
              rw [hyo]
              have hyp : y.pr = ⟨h.st, setN h.xs i t.to, h.g⟩ := by rw [hy]; dsimp only [Hf.pr]; rw [show y0.g = h.g from congrArg Pr.g y1, show y0.st = h.st from congrArg Pr.st y1]
              have ht180 : List.take 18 R0 = R0 := List.take_of_length_le (by omega)
              rcases hbm with rfl | rfl
              all_goals
                simp (maxSteps := 4000000) (disch := first | omega | (refine _root_.id ?_; simp only [pl_int, pl_bool, pl_str, pl_undef, pl_nil, pl_ptr, plA_c, plA_agg, plA_tup, plV_c, plV_agg, List.all_cons, List.all_nil, Bool.and_true, Bool.and_self, eq_self, vi_int, vi_bool, get_app, get_app0, List.getElem?_cons_zero, List.getElem?_cons_succ, Option.join_some, lst_get, getL, upd_at, upd_ne, Nat.reduceBEq])) only [evC_skip, evC_region, evC_seq, evC_block, ev_t, ev_k, putS_some, upd_l, putS_none, ops_nil, ops_consg, guard_bool, evC_condC, cond_bool, ops_cons, next_some, nextD_some, then_norm, putL, getL, Option.map_some, evalOp, AV.cells?, readCell, writeCells, get_app0, set_app0, len_app, List.getElem?_cons_zero, List.getElem?_cons_succ, Option.join_some, List.length_cons, List.length_nil, List.append_assoc, List.cons_append, List.nil_append, Nat.zero_add, Nat.add_zero, Nat.reduceAdd, List.drop_succ_cons, List.take_zero, List.drop_nil, ↓reduceIte, reduceCtorEq, binA, binC, intBin, or_false, or_true, decide_true, decide_false, and_self, lst_get, eq_self, IntWalk.i64_in, List.all_cons, List.all_nil, Bool.and_true, Bool.not_true, Bool.false_eq_true, List.map_cons, List.map_nil, List.append_nil, setAt, CV.ok, List.set_cons_zero, evC_drawn, dr_nil, dr_cons, chk_nil, unA, q1, q2, q3, r95, hk, get_appl lb, hb, r75, hix, e1, hl180, hok180, Nat.le_refl, d0, hc1, hlt, htn, hbl, hg0, hto, hle0, hs0, get_appl lt0, get_appl ltid, set_appl ltid]
                rw [← hY]
                cases ho : okF y
                · rw [ho] at r57
                  simp (maxSteps := 4000000) (disch := first | omega | (refine _root_.id ?_; simp only [pl_int, pl_bool, pl_str, pl_undef, pl_nil, pl_ptr, plA_c, plA_agg, plA_tup, plV_c, plV_agg, List.all_cons, List.all_nil, Bool.and_true, Bool.and_self, eq_self, vi_int, vi_bool, get_app, get_app0, List.getElem?_cons_zero, List.getElem?_cons_succ, Option.join_some, lst_get, getL, upd_at, upd_ne, Nat.reduceBEq])) only [evC_ret, evC_region, evC_seq, ev_t, ev_k, putS_some, upd_l, putS_none, ops_nil, evC_condC, cond_bool, ops_cons, next_some, then_norm, then_ret, out_ret, done_ret, putL, getL, Option.bind_some, Option.map_some, evalOp, AV.cells?, readCells, writeCells, List.length_cons, List.length_nil, List.nil_append, Nat.zero_add, Nat.reduceAdd, Nat.reduceLeDiff, List.drop_zero, List.drop_succ_cons, List.take_zero, List.take_succ_cons, List.take_nil, List.drop_nil, ↓reduceIte, evalRs, evalR, AV.toV0?, mkRes, V0.toAV, and_self, lst_get, eq_self, List.all_cons, List.all_nil, Bool.and_true, Bool.not_false, Bool.false_eq_true, List.append_nil, setAt, CV.ok, unA, partsA, fillC, finish_no, r57, f1, get_set ly1]
                  exact ⟨zHf, _, rfl, pY.set (Nat.le_add_right _ 1), rfl, zHf_nw⟩
                · rw [ho] at r57
                  rw [← hyr] at f0
                  simp (maxSteps := 4000000) (disch := first | omega | (refine _root_.id ?_; simp only [pl_int, pl_bool, pl_str, pl_undef, pl_nil, pl_ptr, plA_c, plA_agg, plA_tup, plV_c, plV_agg, List.all_cons, List.all_nil, Bool.and_true, Bool.and_self, eq_self, vi_int, vi_bool, get_app, get_app0, List.getElem?_cons_zero, List.getElem?_cons_succ, Option.join_some, lst_get, getL, upd_at, upd_ne, Nat.reduceBEq])) only [evC_skip, evC_ret, evC_region, evC_seq, ev_t, ev_k, putS_some, upd_l, putS_none, ops_nil, evC_condC, cond_bool, ops_cons, next_some, then_norm, then_ret, out_ret, done_ret, putL, getL, Option.bind_some, Option.map_some, evalOp, AV.cells?, readCells, writeCells, List.length_cons, List.length_nil, List.nil_append, Nat.zero_add, Nat.reduceAdd, List.drop_zero, List.drop_succ_cons, List.take_zero, List.drop_nil, ↓reduceIte, evalRs, evalR, AV.toV0?, mkRes, V0.toAV, and_self, lst_get, eq_self, Bool.not_true, Bool.false_eq_true, List.append_nil, setAt, unA, finish_no, r57, f0, hl180, ht180, hok180, Nat.le_refl, f1, get_set ly1]
                  exact ⟨y, _, by rw [hyr], pY.set (Nat.le_add_right _ 1), hyp, (hyN.setb (by simp)).base pre_app⟩
          · have e : wiR h.pr t = (zPr, 2) := by unfold wiR; rw [if_neg (by rintro ⟨_, _, h3, h4⟩; simp at h4; omega)]
            rw [e]
            have r75 := fun T => run70 t.ix 0 ((h.xs.length : Int) - 1) (H ++ T)
            simp (maxSteps := 4000000) (disch := first | omega | (refine _root_.id ?_; simp only [pl_int, pl_bool, pl_str, pl_undef, pl_nil, pl_ptr, plA_c, plA_agg, plA_tup, plV_c, plV_agg, List.all_cons, List.all_nil, Bool.and_true, Bool.and_self, eq_self, vi_int, vi_bool, get_app, get_app0, List.getElem?_cons_zero, List.getElem?_cons_succ, Option.join_some, lst_get, getL, upd_at, upd_ne, Nat.reduceBEq])) only [evC_ret, evC_region, evC_seq, evC_block, ev_t, ev_k, putS_some, upd_l, putS_none, ops_nil, ops_consg, guard_bool, evC_condC, cond_bool, ops_cons, next_some, nextD_some, then_norm, then_ret, out_ret, done_ret, putL, getL, Option.bind_some, Option.map_some, evalOp, AV.cells?, readCells, readCell, writeCells, get_app, get_app0, set_app, len_app, List.getElem?_cons_zero, List.getElem?_cons_succ, Option.join_some, List.length_cons, List.length_nil, List.append_assoc, List.cons_append, List.nil_append, Nat.zero_add, Nat.add_zero, Nat.reduceAdd, Nat.reduceLeDiff, List.drop_zero, List.drop_succ_cons, List.take_zero, List.take_succ_cons, List.take_nil, List.drop_nil, ↓reduceIte, reduceCtorEq, binA, binC, intBin, or_false, or_true, evalRs, evalR, AV.toV0?, mkRes, V0.toAV, decide_true, decide_false, and_self, lst_get, eq_self, IntWalk.i64_in, List.all_cons, List.all_nil, Bool.and_true, Bool.not_true, Bool.not_false, Bool.false_eq_true, List.map_cons, List.map_nil, List.append_nil, setAt, CV.ok, List.set_cons_zero, List.set_cons_succ, evC_drawn, dr_nil, dr_cons, chk_nil, unA, partsA, fillC, finish_no, q1, q2, q3, r95, hk, get_appl lb, hb, r75, hix]
            exact ⟨zHf, _, rfl, pre_app, rfl, zHf_nw⟩
        · have e : wiR h.pr t = (zPr, 2) := by unfold wiR; rw [if_neg (fun h => hk h.2.1)]
          rw [e]
          simp (maxSteps := 4000000) (disch := first | omega | (refine _root_.id ?_; simp only [pl_int, pl_bool, pl_str, pl_undef, pl_nil, pl_ptr, plA_c, plA_agg, plA_tup, plV_c, plV_agg, List.all_cons, List.all_nil, Bool.and_true, Bool.and_self, eq_self, vi_int, vi_bool, get_app, get_app0, List.getElem?_cons_zero, List.getElem?_cons_succ, Option.join_some, lst_get, getL, upd_at, upd_ne, Nat.reduceBEq])) only [evC_ret, evC_region, evC_seq, evC_block, ev_t, ev_k, putS_some, upd_l, putS_none, ops_nil, ops_consg, guard_bool, evC_condC, cond_bool, ops_cons, next_some, nextD_some, then_norm, then_ret, out_ret, done_ret, putL, getL, Option.bind_some, Option.map_some, evalOp, AV.cells?, readCells, readCell, writeCells, get_app, get_app0, set_app, len_app, List.getElem?_cons_zero, List.getElem?_cons_succ, Option.join_some, List.length_cons, List.length_nil, List.append_assoc, List.cons_append, List.nil_append, Nat.zero_add, Nat.add_zero, Nat.reduceAdd, Nat.reduceLeDiff, List.drop_zero, List.drop_succ_cons, List.take_zero, List.take_succ_cons, List.take_nil, List.drop_nil, ↓reduceIte, reduceCtorEq, binA, binC, intBin, or_false, or_true, evalRs, evalR, AV.toV0?, mkRes, V0.toAV, decide_false, and_self, lst_get, eq_self, IntWalk.i64_in, List.all_cons, List.all_nil, Bool.and_true, Bool.not_false, Bool.true_eq_false, Bool.false_eq_true, List.map_cons, List.map_nil, List.append_nil, setAt, CV.ok, List.set_cons_zero, List.set_cons_succ, evC_drawn, dr_nil, dr_cons, chk_nil, unA, partsA, fillC, finish_no, q1, q2, q3, r95, hk]
          exact ⟨zHf, _, rfl, pre_app, rfl, zHf_nw⟩
      · have e : wiR h.pr t = (zPr, 2) := by unfold wiR; rw [if_neg (fun h => a0 h.1)]
        rw [e]
        have q3 : (t.at_ != 0) = true := by simpa using a0
        simp (maxSteps := 4000000) (disch := first | omega | (refine _root_.id ?_; simp only [pl_int, pl_bool, pl_str, pl_undef, pl_nil, pl_ptr, plA_c, plA_agg, plA_tup, plV_c, plV_agg, List.all_cons, List.all_nil, Bool.and_true, Bool.and_self, eq_self, vi_int, vi_bool, get_app, get_app0, List.getElem?_cons_zero, List.getElem?_cons_succ, Option.join_some, lst_get, getL, upd_at, upd_ne, Nat.reduceBEq])) only [evC_ret, evC_region, evC_seq, evC_block, ev_t, ev_k, putS_some, upd_l, putS_none, ops_nil, ops_consg, guard_bool, evC_condC, cond_bool, ops_cons, next_some, nextD_some, then_norm, then_ret, out_ret, done_ret, putL, getL, Option.bind_some, Option.map_some, evalOp, AV.cells?, readCells, readCell, writeCells, get_app, get_app0, set_app, len_app, List.getElem?_cons_zero, List.getElem?_cons_succ, Option.join_some, List.length_cons, List.length_nil, List.append_assoc, List.cons_append, List.nil_append, Nat.zero_add, Nat.add_zero, Nat.reduceAdd, Nat.reduceLeDiff, List.drop_zero, List.drop_succ_cons, List.take_zero, List.take_succ_cons, List.take_nil, List.drop_nil, ↓reduceIte, reduceCtorEq, binA, binC, intBin, or_false, or_true, evalRs, evalR, AV.toV0?, mkRes, V0.toAV, and_self, lst_get, eq_self, List.all_cons, List.all_nil, Bool.and_true, Bool.not_false, Bool.true_eq_false, Bool.false_eq_true, List.append_nil, setAt, CV.ok, List.set_cons_zero, List.set_cons_succ, evC_drawn, dr_nil, dr_cons, chk_nil, partsA, fillC, finish_no, q1, q2, q3]
        exact ⟨zHf, _, rfl, pre_app, rfl, zHf_nw⟩
    · have q2 : (t.k == 2) = false := by simpa using k2
      have e : tmR h.pr t = (zPr, 2) := by unfold tmR; rw [if_neg k1, if_neg k2]
      rw [e]
      simp (maxSteps := 4000000) (disch := first | omega | (refine _root_.id ?_; simp only [pl_int, pl_bool, pl_str, pl_undef, pl_nil, pl_ptr, plA_c, plA_agg, plA_tup, plV_c, plV_agg, List.all_cons, List.all_nil, Bool.and_true, Bool.and_self, eq_self, vi_int, vi_bool, get_app, get_app0, List.getElem?_cons_zero, List.getElem?_cons_succ, Option.join_some, lst_get, getL, upd_at, upd_ne, Nat.reduceBEq])) only [evC_skip, evC_ret, evC_region, evC_seq, evC_block, ev_t, ev_k, putS_some, upd_l, putS_none, ops_nil, evC_condC, cond_bool, ops_cons, next_some, then_norm, out_norm, done_ret, putL, getL, Option.bind_some, Option.map_some, evalOp, AV.cells?, readCells, readCell, writeCells, get_app, get_app0, set_app, len_app, List.getElem?_cons_zero, List.getElem?_cons_succ, Option.join_some, List.length_cons, List.length_nil, List.append_assoc, List.cons_append, List.nil_append, Nat.zero_add, Nat.add_zero, Nat.reduceAdd, Nat.reduceLeDiff, List.drop_zero, List.drop_succ_cons, List.take_zero, List.take_succ_cons, List.take_nil, List.drop_nil, ↓reduceIte, reduceCtorEq, binA, binC, intBin, or_false, or_true, evalRs, evalR, AV.toV0?, mkRes, V0.toAV, and_self, lst_get, eq_self, List.all_cons, List.all_nil, Bool.and_true, Bool.false_eq_true, List.append_nil, setAt, CV.ok, List.set_cons_zero, List.set_cons_succ, partsA, fillC, finish_no, q1, q2]
      exact ⟨zHf, _, rfl, pre_app, rfl, zHf_nw⟩
end Go.Proofs.YtcfabmmonoljeaaDoor
