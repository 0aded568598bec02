/- What functions of the program answer: part Tam. -/
import Derived.Test.YtcfabmmonoljeaaDoorCut4
import Derived.Test.YtcfabmmonoljeaaDoorInspect
set_option linter.unusedVariables false
set_option linter.unusedSimpArgs false
set_option linter.unusedSectionVars false
namespace Go.Proofs.YtcfabmmonoljeaaDoor
open Go Go.Proofs.YtcfabmmonoljeaaDoor.VI
set_option maxHeartbeats 16000000
set_option maxRecDepth 20000
theorem getD_at {xs : List Nt} {i : Nat} (hi : i < xs.length) : xs.getD i ⟨0, 0⟩ = xs[i]'hi := by rw [List.getD_eq_getElem?_getD, List.getElem?_eq_getElem hi]; rfl
theorem setN_rng {xs : List Nt} {i : Nat} {k : Int} (hi : i < xs.length) (h : ∀ x ∈ xs, rngN x) (hk : -128 ≤ k ∧ k ≤ 127) : ∀ x ∈ setN xs i k, rngN x := by
  intro x hx
  unfold setN at hx
  rcases List.mem_or_eq_of_mem_set hx with hx | rfl
  · exact h x hx
  · rw [getD_at hi]
    exact ⟨hk, (h _ (List.getElem_mem hi)).2⟩
theorem setN_len {xs : List Nt} {i : Nat} {k : Int} : (setN xs i k).length = xs.length := List.length_set ..
theorem okP_few {h : Hf} (o : okF h = true) : h.xs.length ≤ 60 := (okH_p o).1
theorem tm_not {h : Hf} {t : Tm} (ok : okF h = true) (hn : isT t = false ∨ (t.k = 2 ∧ (h.xs.length : Int) ≤ t.ix)) : tmR h.pr t = (zPr, 2) := by
  have few := okP_few ok
  unfold tmR
  rcases hn with hn | ⟨h1, h2⟩
  · have hn := of_decide_eq_false hn
    split
    · rename_i k1
      split
      · rename_i i0
        unfold cnR
        rw [if_neg]
        intro hc
        exact hn ⟨hc.1, .inl ⟨k1, i0, hc.2⟩⟩
      · rfl
    · split
      · rename_i k1 k2
        unfold wiR
        rw [if_neg]
        rintro ⟨h1, h2, h3, h4⟩
        exact hn ⟨h2, .inr ⟨k2, h1, h3, by simp at h4; omega⟩⟩
      · rfl
  · rw [if_neg (by omega), if_pos h1]
    unfold wiR
    rw [if_neg]
    rintro ⟨_, _, _, h4⟩
    simp at h4; omega
theorem run37 {h : Hf} {t : Tm} {H : AHeap} (hh : HfAt H h) (ok : okF h = true) (ht : rngT t) : ∃ y J, ev kk 37 [.agg (hfr h), .agg (trow t)] H = some (.tup [.agg (hfr y), .c (.int .i64 (tmR h.pr t).2)], J) ∧ Pre H J ∧ y.pr = (tmR h.pr t).1 ∧ HfNw H J y := by
  have few := okP_few ok
  have r99 := fun T => run44 (t := t) (H ++ T) ht
  obtain ⟨⟨⟨t1, t2⟩, t3, t4⟩, ⟨t5, t6⟩, t7, t8⟩ := ht
  have hl18 := hfr_len h
  have ht18 : List.take 18 (hfr h) = hfr h := List.take_of_length_le (by omega)
  have hok18 : (hfr h).all CV.ok = true := by simp only [List.all_cons, grow_ok]; rfl
  rw [ev_call c37]; unfold k37; rw [evB_eq rfl]
  cases hT : isT t
  · rw [hT] at r99
    rw [tm_not ok (.inl hT)]
    simp (maxSteps := 4000000) (disch := first | omega | (refine _root_.id ?_; simp only [pl_int, pl_bool, pl_str, pl_undef, pl_nil, pl_ptr, plA_c, plA_agg, plA_tup, plV_c, plV_agg, List.all_cons, List.all_nil, Bool.and_true, Bool.and_self, eq_self, vi_int, vi_bool, get_app, get_app0, List.getElem?_cons_zero, List.getElem?_cons_succ, Option.join_some, lst_get, getL, upd_at, upd_ne, Nat.reduceBEq])) only [evC_ret, evC_region, evC_seq, ev_t, ev_k, putS_some, upd_l, putS_none, ops_nil, ops_consg, guard_bool, evC_condC, cond_bool, ops_cons, next_some, then_norm, then_ret, done_ret, putL, getL, Option.bind_some, Option.map_some, evalOp, AV.cells?, readCells, writeCells, get_app, set_app, len_app, List.getElem?_cons_zero, List.getElem?_cons_succ, Option.join_some, List.length_cons, List.length_nil, List.append_assoc, List.cons_append, List.nil_append, Nat.zero_add, Nat.reduceAdd, Nat.reduceLeDiff, List.drop_zero, List.drop_succ_cons, List.take_zero, List.take_succ_cons, List.take_nil, List.drop_nil, ↓reduceIte, evalRs, evalR, AV.toV0?, mkRes, V0.toAV, and_self, lst_get, eq_self, List.all_cons, List.all_nil, Bool.and_true, Bool.not_false, Bool.true_eq_false, List.map_cons, List.map_nil, List.append_nil, setAt, CV.ok, List.set_cons_zero, List.set_cons_succ, unA, partsA, fillC, finish_no, guard_undef, r99]
    exact ⟨zHf, _, rfl, pre_app, rfl, zHf_nw⟩
  rw [hT] at r99
  have hT := of_decide_eq_true hT
  obtain ⟨hk, hT⟩ := hT
  rcases hT with ⟨k1, i0, a0, a1⟩ | ⟨k2, a0, i0, i1⟩
  · have e : tmR h.pr t = cnR h.pr t.to t.at_ := by unfold tmR; rw [if_pos k1, if_pos i0]
    rw [e]
    obtain ⟨y, J, e1, p1, y1, y2⟩ := run67 (h := h) (kd := t.to) (a := t.at_) (hh.app [hfb h, some ⟨37, trow t, .own⟩, zbl]) ok
    have b1 := p1.get (show AHeap.get (H ++ [hfb h, some ⟨37, trow t, .own⟩, zbl]) (H.length + 2) = zbl by rw [get_app]; rfl)
    have lt1 : H.length + 2 < J.length := get_some_lt b1
    have pJ : Pre H J := pre_app.trans p1
    have hl18y := hfr_len y
    have ht18y : List.take 18 (hfr y) = hfr y := List.take_of_length_le (by omega)
    have hok18y : (hfr y).all CV.ok = true := by simp only [List.all_cons, grow_ok]; rfl
    obtain ⟨R, hR⟩ : ∃ R, R = hfr h := ⟨_, rfl⟩
    obtain ⟨R', hR'⟩ : ∃ R, R = hfr y := ⟨_, rfl⟩
    have hzb : hfb h = some ⟨29, R, .own⟩ := by rw [hR]
    rw [hzb] at e1
    rw [← hR] at e1 hl18 ht18 hok18 ⊢
    rw [← hR'] at e1 hl18y ht18y hok18y
    generalize cnR h.pr t.to t.at_ = cr at *
    have q1 : (t.k == 1) = true := by simpa using k1
    have q2 : (t.k == 2) = false := by simp [k1]
    simp (maxSteps := 4000000) (disch := first | omega | (refine _root_.id ?_; simp only [pl_int, pl_bool, pl_str, pl_undef, pl_nil, pl_ptr, plA_c, plA_agg, plA_tup, plV_c, plV_agg, List.all_cons, List.all_nil, Bool.and_true, Bool.and_self, eq_self, vi_int, vi_bool, get_app, get_app0, List.getElem?_cons_zero, List.getElem?_cons_succ, Option.join_some, lst_get, getL, upd_at, upd_ne, Nat.reduceBEq])) only [evC_skip, evC_ret, evC_region, evC_seq, ev_t, ev_k, putS_some, upd_l, putS_none, ops_nil, ops_consg, guard_bool, evC_condC, cond_bool, ops_cons, next_some, then_norm, then_ret, done_ret, putL, getL, Option.bind_some, Option.map_some, evalOp, AV.cells?, readCells, readCell, writeCells, get_app, get_app0, len_app, List.getElem?_cons_zero, List.getElem?_cons_succ, Option.join_some, List.length_cons, List.length_nil, List.append_assoc, List.cons_append, List.nil_append, Nat.zero_add, Nat.add_zero, Nat.reduceAdd, List.drop_zero, List.drop_succ_cons, List.take_zero, List.take_succ_cons, List.take_nil, List.drop_nil, ↓reduceIte, reduceCtorEq, binA, binC, intBin, or_false, or_true, evalRs, evalR, AV.toV0?, mkRes, V0.toAV, and_self, lst_get, eq_self, IntWalk.i64_in, Bool.not_true, Bool.false_eq_true, List.map_cons, List.map_nil, List.append_nil, setAt, unA, finish_no, r99, q1, q2, hl18, ht18, Nat.le_refl, e1, b1, hl18y, ht18y, hok18y, get_set lt1]
    exact ⟨y, _, by rw [hR'], (pJ.set (Nat.le_add_right _ 2)), y1, (y2.setb (by simp)).base pre_app⟩
  · obtain ⟨i, hi⟩ : ∃ i : Nat, t.ix = (i : Int) := ⟨t.ix.toNat, by omega⟩
    by_cases hil : i < h.xs.length
    · have hkne : ¬ t.k = 1 := by omega
      have hC : tmR h.pr t = if t.to ≤ (h.xs[i]'hil).k then (zPr, 4) else if okH (setN h.xs i t.to) h.g = true then (⟨h.st, setN h.xs i t.to, h.g⟩, 0) else (zPr, 4) := by
        unfold tmR
        rw [if_neg hkne, if_pos k2]
        unfold wiR
        rw [if_pos ⟨a0, hk, i0, by simp; omega⟩]
        rw [hi, Int.toNat_natCast, getD_at hil]
      rw [hC]
      have b0 : AHeap.get (H ++ [hfb h, some ⟨37, trow t, .own⟩, zbl]) H.length = hfb h := by rw [get_app0]; rfl
      have b1 : AHeap.get (H ++ [hfb h, some ⟨37, trow t, .own⟩, zbl]) (H.length + 1) = some ⟨37, trow t, .own⟩ := by rw [get_app]; rfl
      have b2 : AHeap.get (H ++ [hfb h, some ⟨37, trow t, .own⟩, zbl]) (H.length + 2) = zbl := by rw [get_app]; rfl
      obtain ⟨c, J, e1, p1, hcl⟩ := run52 (cap := h.cap) hh.few (hh.at_.app [hfb h, some ⟨37, trow t, .own⟩, zbl])
      rcases hcl with ⟨hx, _⟩ | ⟨_, id, rfl, hid, hbl⟩
      · rw [hx] at hil; simp at hil
      simp only [List.length_append, List.length_cons, List.length_nil, Nat.zero_add, Nat.reduceAdd] at hid
      have d0 := p1.get b0
      have d1 := p1.get b1
      have d2 := p1.get b2
      have lt0 : H.length < J.length := get_some_lt d0
      have lt2 : H.length + 2 < J.length := get_some_lt d2
      have ltid := get_some_lt hbl
      have pJ : Pre H J := pre_app.trans p1
      have hlt : (i : Int) < h.xs.length := by omega
      have hge : ¬ (h.xs.length : Int) ≤ t.ix := by omega
      have hlt : t.ix < h.xs.length := by omega
      have htn : t.ix.toNat = i := by omega
      have q1 : (t.k == 1) = false := by simp [k2]
      have q2 : (t.k == 2) = true := by simpa using k2
      obtain ⟨X, hX⟩ : ∃ X : Option Blk, X = some ⟨29, .bool h.st :: .slice (some (id, 0)) h.xs.length (.toEnd 2) :: grow h.g, .own⟩ := ⟨_, rfl⟩
      have c0 : AHeap.get (J.set H.length X) H.length = some ⟨29, .bool h.st :: .slice (some (id, 0)) h.xs.length (.toEnd 2) :: grow h.g, .own⟩ := by rw [get_set lt0, hX]
      have c1 : AHeap.get (J.set H.length X) (H.length + 1) = some ⟨37, trow t, .own⟩ := by rw [get_neh (by omega)]; exact d1
      have c2 : AHeap.get (J.set H.length X) (H.length + 2) = zbl := by rw [get_neh (by omega)]; exact d2
      have cid : AHeap.get (J.set H.length X) id = some ⟨91, nrows h.xs, .opn⟩ := by rw [get_neh (by omega)]; exact hbl
      have pX : Pre H (J.set H.length X) := pJ.set (Nat.le_refl _)
      have lx2 := get_some_lt c2
      have lxi := get_some_lt cid
      have hg0 := nr0 hil
      have hs0 := nset1 (v := t.to) hil
      have hle0 : i * 2 + 1 ≤ (nrows h.xs).length := by rw [nrowl]; omega
      by_cases hto : t.to ≤ (h.xs[i]'hil).k
      · rw [if_pos hto]
        simp (maxSteps := 4000000) (disch := first | omega | (refine _root_.id ?_; simp only [pl_int, pl_bool, pl_str, pl_undef, pl_nil, pl_ptr, plA_c, plA_agg, plA_tup, plV_c, plV_agg, List.all_cons, List.all_nil, Bool.and_true, Bool.and_self, eq_self, vi_int, vi_bool, get_app, get_app0, List.getElem?_cons_zero, List.getElem?_cons_succ, Option.join_some, lst_get, getL, upd_at, upd_ne, Nat.reduceBEq])) only [evC_skip, evC_region, evC_seq, ev_t, ev_k, putS_some, upd_l, putS_none, ops_nil, ops_consg, guard_bool, evC_condC, cond_bool, ops_cons, next_some, then_norm, putL, getL, Option.map_some, evalOp, AV.cells?, readCells, readCell, writeCells, get_app, get_app0, len_app, List.getElem?_cons_zero, List.getElem?_cons_succ, Option.join_some, List.length_cons, List.length_nil, List.append_assoc, List.cons_append, List.nil_append, Nat.zero_add, Nat.add_zero, Nat.reduceAdd, Nat.reduceLeDiff, List.drop_zero, List.drop_succ_cons, List.take_zero, List.take_succ_cons, List.take_nil, ↓reduceIte, reduceCtorEq, binA, binC, intBin, or_false, or_true, decide_false, and_self, lst_get, eq_self, IntWalk.i64_in, List.all_cons, List.all_nil, Bool.and_true, Bool.not_true, Bool.false_eq_true, List.map_cons, List.map_nil, List.append_nil, setAt, CV.ok, unA, r99, q1, q2, hge, e1, d0]
        rw [← hX]
        simp (maxSteps := 4000000) (disch := first | omega | (refine _root_.id ?_; simp only [pl_int, pl_bool, pl_str, pl_undef, pl_nil, pl_ptr, plA_c, plA_agg, plA_tup, plV_c, plV_agg, List.all_cons, List.all_nil, Bool.and_true, Bool.and_self, eq_self, vi_int, vi_bool, get_app, get_app0, List.getElem?_cons_zero, List.getElem?_cons_succ, Option.join_some, lst_get, getL, upd_at, upd_ne, Nat.reduceBEq])) only [evC_ret, evC_region, evC_seq, ev_t, ev_k, putS_some, upd_l, putS_none, ops_nil, evC_condC, cond_bool, ops_cons, next_some, nextD_some, then_norm, then_ret, done_ret, putL, getL, Option.bind_some, Option.map_some, evalOp, AV.cells?, readCells, readCell, writeCells, List.getElem?_cons_zero, List.getElem?_cons_succ, List.length_cons, List.length_nil, List.nil_append, Nat.zero_add, Nat.add_zero, Nat.reduceAdd, Nat.reduceLeDiff, List.drop_zero, List.drop_succ_cons, List.take_zero, List.take_succ_cons, List.take_nil, List.drop_nil, ↓reduceIte, reduceCtorEq, binA, binC, intBin, or_false, or_true, evalRs, evalR, AV.toV0?, mkRes, V0.toAV, decide_true, and_self, lst_get, eq_self, List.all_cons, List.all_nil, Bool.and_true, List.append_nil, setAt, CV.ok, evC_drawn, dr_nil, dr_cons, chk_nil, partsA, fillC, finish_no, c0, c1, cid, i0, hlt, htn, hg0, hto, c2, get_set lx2]
        exact ⟨zHf, _, rfl, pX.set (Nat.le_add_right _ 2), rfl, zHf_nw⟩
      · rw [if_neg hto]
        have hsN : setN h.xs i t.to = h.xs.set i ⟨t.to, (h.xs[i]'hil).a⟩ := by unfold setN; rw [getD_at hil]
        obtain ⟨y, hy⟩ : ∃ y : Hf, y = ⟨h.st, some (id, 0), .toEnd 2, setN h.xs i t.to, h.g, h.g16⟩ := ⟨_, rfl⟩
        have hyr : (.bool h.st :: .slice (some (id, 0)) h.xs.length (.toEnd 2) :: grow h.g) = hfr y := by rw [hy]; simp only [hfr, setN_len]
        obtain ⟨Y, hY⟩ : ∃ Y : Option Blk, Y = some ⟨91, nrows (h.xs.set i ⟨t.to, (h.xs[i]'hil).a⟩), .opn⟩ := ⟨_, rfl⟩
        have f0 : AHeap.get ((J.set H.length X).set id Y) H.length = some ⟨29, hfr y, .own⟩ := by rw [get_neh (by omega), c0, hyr]
        have f2 : AHeap.get ((J.set H.length X).set id Y) (H.length + 2) = zbl := by rw [get_neh (by omega)]; exact c2
        have fid : AHeap.get ((J.set H.length X).set id Y) id = some ⟨91, nrows y.xs, .opn⟩ := by rw [get_set lxi, hY, hy, hsN]
        have pY : Pre H ((J.set H.length X).set id Y) := pX.set (by omega)
        have ly2 := get_some_lt f2
        have hyN : HfNw (H ++ [hfb h, some ⟨37, trow t, .own⟩, zbl]) ((J.set H.length X).set id Y) y := ⟨by rw [hy]; dsimp only; rw [setN_len]; omega, by rw [hy]; exact setN_rng hil hh.rng ⟨t3, t4⟩, fun _ => ⟨id, .opn, by rw [hy], by simp; omega, fid, .inr rfl⟩⟩
        have r59 := v70 hyN.at_
        have hl18y := hfr_len y
        have ht18y : List.take 18 (hfr y) = hfr y := List.take_of_length_le (by omega)
        have hok18y : (hfr y).all CV.ok = true := by simp only [List.all_cons, grow_ok]; rfl
        have hyo : okH (setN h.xs i t.to) h.g = okF y := by unfold okF; rw [hy]
        rw [hyo]
        simp (maxSteps := 4000000) (disch := first | omega | (refine _root_.id ?_; simp only [pl_int, pl_bool, pl_str, pl_undef, pl_nil, pl_ptr, plA_c, plA_agg, plA_tup, plV_c, plV_agg, List.all_cons, List.all_nil, Bool.and_true, Bool.and_self, eq_self, vi_int, vi_bool, get_app, get_app0, List.getElem?_cons_zero, List.getElem?_cons_succ, Option.join_some, lst_get, getL, upd_at, upd_ne, Nat.reduceBEq])) only [evC_skip, evC_region, evC_seq, ev_t, ev_k, putS_some, upd_l, putS_none, ops_nil, ops_consg, guard_bool, evC_condC, cond_bool, ops_cons, next_some, then_norm, putL, getL, Option.map_some, evalOp, AV.cells?, readCells, readCell, writeCells, get_app, get_app0, len_app, List.getElem?_cons_zero, List.getElem?_cons_succ, Option.join_some, List.length_cons, List.length_nil, List.append_assoc, List.cons_append, List.nil_append, Nat.zero_add, Nat.add_zero, Nat.reduceAdd, Nat.reduceLeDiff, List.drop_zero, List.drop_succ_cons, List.take_zero, List.take_succ_cons, List.take_nil, ↓reduceIte, reduceCtorEq, binA, binC, intBin, or_false, or_true, decide_false, and_self, lst_get, eq_self, IntWalk.i64_in, List.all_cons, List.all_nil, Bool.and_true, Bool.not_true, Bool.false_eq_true, List.map_cons, List.map_nil, List.append_nil, setAt, CV.ok, unA, r99, q1, q2, hge, e1, d0]
        rw [← hX]
        simp (maxSteps := 4000000) (disch := first | omega | (refine _root_.id ?_; simp only [pl_int, pl_bool, pl_str, pl_undef, pl_nil, pl_ptr, plA_c, plA_agg, plA_tup, plV_c, plV_agg, List.all_cons, List.all_nil, Bool.and_true, Bool.and_self, eq_self, vi_int, vi_bool, get_app, get_app0, List.getElem?_cons_zero, List.getElem?_cons_succ, Option.join_some, lst_get, getL, upd_at, upd_ne, Nat.reduceBEq])) only [evC_skip, evC_region, evC_seq, ev_t, putS_some, upd_l, putS_none, ops_nil, evC_condC, cond_bool, ops_cons, next_some, nextD_some, then_norm, putL, getL, Option.map_some, evalOp, AV.cells?, readCells, readCell, writeCells, List.getElem?_cons_zero, List.getElem?_cons_succ, List.length_cons, List.length_nil, List.append_assoc, List.cons_append, List.nil_append, Nat.zero_add, Nat.add_zero, List.drop_zero, ↓reduceIte, reduceCtorEq, binA, binC, intBin, or_false, or_true, decide_false, and_self, lst_get, eq_self, List.all_cons, List.all_nil, Bool.and_true, Bool.false_eq_true, setAt, CV.ok, evC_drawn, dr_nil, dr_cons, chk_nil, c0, c1, cid, i0, hlt, htn, hg0, hto, hle0, hs0]
        rw [← hY]
        obtain ⟨R, hR⟩ : ∃ R, R = hfr y := ⟨_, rfl⟩
        rw [← hR] at r59 f0 hl18y ht18y hok18y
        cases ho : okF y
        · rw [ho] at r59
          simp (maxSteps := 4000000) (disch := first | omega | (refine _root_.id ?_; simp only [pl_int, pl_bool, pl_str, pl_undef, pl_nil, pl_ptr, plA_c, plA_agg, plA_tup, plV_c, plV_agg, List.all_cons, List.all_nil, Bool.and_true, Bool.and_self, eq_self, vi_int, vi_bool, get_app, get_app0, List.getElem?_cons_zero, List.getElem?_cons_succ, Option.join_some, lst_get, getL, upd_at, upd_ne, Nat.reduceBEq])) only [evC_ret, evC_region, evC_seq, ev_t, ev_k, putS_some, upd_l, putS_none, ops_nil, evC_condC, cond_bool, ops_cons, next_some, then_norm, then_ret, done_ret, putL, getL, Option.bind_some, Option.map_some, evalOp, AV.cells?, readCells, writeCells, List.length_cons, List.length_nil, List.nil_append, Nat.zero_add, Nat.reduceAdd, List.drop_zero, List.drop_succ_cons, List.take_zero, List.take_succ_cons, List.take_nil, List.drop_nil, ↓reduceIte, evalRs, evalR, AV.toV0?, mkRes, V0.toAV, and_self, lst_get, eq_self, List.all_cons, List.all_nil, Bool.and_true, Bool.not_false, Bool.false_eq_true, List.map_cons, List.map_nil, List.append_nil, setAt, CV.ok, unA, partsA, fillC, finish_no, f0, hl18y, ht18y, Nat.le_refl, r59, f2, get_set ly2]
          exact ⟨zHf, _, rfl, pY.set (Nat.le_add_right _ 2), rfl, zHf_nw⟩
        · rw [ho] at r59
          simp (maxSteps := 4000000) (disch := first | omega | (refine _root_.id ?_; simp only [pl_int, pl_bool, pl_str, pl_undef, pl_nil, pl_ptr, plA_c, plA_agg, plA_tup, plV_c, plV_agg, List.all_cons, List.all_nil, Bool.and_true, Bool.and_self, eq_self, vi_int, vi_bool, get_app, get_app0, List.getElem?_cons_zero, List.getElem?_cons_succ, Option.join_some, lst_get, getL, upd_at, upd_ne, Nat.reduceBEq])) only [evC_skip, evC_ret, evC_region, evC_seq, ev_t, ev_k, putS_some, upd_l, putS_none, ops_nil, evC_condC, cond_bool, ops_cons, next_some, then_norm, done_ret, putL, getL, Option.bind_some, Option.map_some, evalOp, AV.cells?, readCells, writeCells, List.length_cons, List.length_nil, List.nil_append, Nat.zero_add, Nat.reduceAdd, List.drop_zero, List.drop_succ_cons, List.take_zero, List.drop_nil, ↓reduceIte, evalRs, evalR, AV.toV0?, mkRes, V0.toAV, and_self, lst_get, eq_self, Bool.not_true, Bool.false_eq_true, List.map_cons, List.map_nil, List.append_nil, setAt, unA, finish_no, f0, hl18y, ht18y, hok18y, Nat.le_refl, r59, f2, get_set ly2]
          exact ⟨y, _, by rw [hR], pY.set (Nat.le_add_right _ 2), by rw [hy], (hyN.setb (by simp)).base pre_app⟩
    · rw [tm_not ok (.inr ⟨k2, by omega⟩)]
      have hge : (h.xs.length : Int) ≤ t.ix := by omega
      have q2 : (t.k == 2) = true := by simpa using k2
      simp (maxSteps := 4000000) (disch := first | omega | (refine _root_.id ?_; simp only [pl_int, pl_bool, pl_str, pl_undef, pl_nil, pl_ptr, plA_c, plA_agg, plA_tup, plV_c, plV_agg, List.all_cons, List.all_nil, Bool.and_true, Bool.and_self, eq_self, vi_int, vi_bool, get_app, get_app0, List.getElem?_cons_zero, List.getElem?_cons_succ, Option.join_some, lst_get, getL, upd_at, upd_ne, Nat.reduceBEq])) only [evC_ret, evC_region, evC_seq, ev_t, ev_k, putS_some, upd_l, putS_none, ops_nil, ops_consg, guard_bool, evC_condC, cond_bool, ops_cons, next_some, then_norm, then_ret, done_ret, putL, getL, Option.bind_some, Option.map_some, evalOp, AV.cells?, readCells, readCell, writeCells, get_app, get_app0, set_app, len_app, List.getElem?_cons_zero, List.getElem?_cons_succ, Option.join_some, List.length_cons, List.length_nil, List.append_assoc, List.cons_append, List.nil_append, Nat.zero_add, Nat.add_zero, Nat.reduceAdd, Nat.reduceLeDiff, List.drop_zero, List.drop_succ_cons, List.take_zero, List.take_succ_cons, List.take_nil, List.drop_nil, ↓reduceIte, reduceCtorEq, binA, binC, intBin, or_false, or_true, evalRs, evalR, AV.toV0?, mkRes, V0.toAV, decide_true, and_self, lst_get, eq_self, IntWalk.i64_in, List.all_cons, List.all_nil, Bool.and_true, Bool.not_true, Bool.false_eq_true, List.map_cons, List.map_nil, List.append_nil, setAt, CV.ok, List.set_cons_zero, List.set_cons_succ, unA, partsA, fillC, finish_no, r99, q2, hge]
      exact ⟨zHf, _, rfl, pre_app, rfl, zHf_nw⟩
end Go.Proofs.YtcfabmmonoljeaaDoor
