/- What functions of the program answer: part Tam3. -/
import Derived.Test.YtnblibimbggheaaTam2
import Derived.Test.YtnblibimbggheaaSums
set_option linter.unusedVariables false
set_option linter.unusedSimpArgs false
set_option linter.unusedSectionVars false
namespace Go.Proofs.Ytnblibimbggheaa
open Go Go.Proofs.Ytnblibimbggheaa.VI
set_option maxHeartbeats 16000000
set_option maxRecDepth 20000
/-! Tampering with a half -/
def thR (p : Pr) (t : Tm) : Pr × Int := if okP p = true then tmR p t else (zPr, 1)
theorem hfr_ok {h : Hf} : (hfr h).all CV.ok = true := by simp only [List.all_cons, grow_ok]; rfl
theorem hfr_t {h : Hf} : List.take 18 (hfr h) = hfr h := List.take_of_length_le (by rw [hfr_len]; omega)
theorem run17 {h : Hf} {t : Tm} {H : AHeap} (hh : HfAt H h) (ht : rngT t) : ∃ y J, ev kk 17 [.agg (hfr h), .agg (trow t)] H = some (.tup [.agg (hfr y), .c (.int .i64 (thR h.pr t).2)], J) ∧ Pre H J ∧ y.pr = (thR h.pr t).1 ∧ HfNw H J y := by
  have hA := hh.app [hfb h, some ⟨38, trow t, .own⟩, zbl]
  have b0 : AHeap.get (H ++ [hfb h, some ⟨38, trow t, .own⟩, zbl]) H.length = hfb h := by rw [get_app0]; rfl
  have r57 := v66 hA b0
  unfold thR
  rw [show okP h.pr = okF h from rfl]
  rw [ev_call c17]; unfold k17; rw [evB_eq rfl]
  cases ok : okF h
  · rw [ok] at r57
    simp (maxSteps := 4000000) (disch := first | omega | (refine _root_.id ?_; simp only [pl_int, pl_bool, pl_str, pl_undef, pl_nil, pl_ptr, plA_c, plA_agg, plA_tup, plV_c, plV_agg, List.all_cons, List.all_nil, Bool.and_true, Bool.and_self, eq_self, vi_int, vi_bool, get_app, get_app0, List.getElem?_cons_zero, List.getElem?_cons_succ, Option.join_some, lst_get, getL, upd_at, upd_ne, Nat.reduceBEq])) only [evC_ret, evC_region, evC_seq, ev_t, ev_k, putS_some, upd_l, putS_none, ops_nil, evC_condC, cond_bool, ops_cons, next_some, then_norm, then_ret, done_ret, putL, getL, Option.bind_some, Option.map_some, evalOp, AV.cells?, readCells, writeCells, get_app, set_app, len_app, List.getElem?_cons_zero, List.getElem?_cons_succ, Option.join_some, List.length_cons, List.length_nil, List.append_assoc, List.cons_append, List.nil_append, Nat.zero_add, Nat.reduceAdd, Nat.reduceLeDiff, List.drop_zero, List.drop_succ_cons, List.take_zero, List.take_succ_cons, List.take_nil, List.drop_nil, ↓reduceIte, evalRs, evalR, AV.toV0?, mkRes, V0.toAV, and_self, lst_get, eq_self, List.all_cons, List.all_nil, Bool.and_true, Bool.not_false, Bool.false_eq_true, List.map_cons, List.map_nil, List.append_nil, setAt, CV.ok, List.set_cons_zero, List.set_cons_succ, unA, partsA, fillC, finish_no, r57]
    exact ⟨zHf, _, rfl, pre_app, rfl, zHf_nw⟩
  · rw [ok] at r57
    obtain ⟨y, J, e1, p1, y1, y2⟩ := run58 hA ok ht b0
    have b1 := p1.get (show AHeap.get (H ++ [hfb h, some ⟨38, trow t, .own⟩, zbl]) (H.length + 2) = zbl by rw [get_app]; rfl)
    have lt1 := get_some_lt b1
    have hl18y := hfr_len y
    have ht18y := hfr_t (h := y)
    have hok18y := hfr_ok (h := y)
    obtain ⟨R', hR'⟩ : ∃ R, R = hfr y := ⟨_, rfl⟩
    rw [← hR'] at e1 hl18y ht18y hok18y
    rw [if_pos rfl]
    generalize tmR h.pr t = cr at *
    simp (maxSteps := 4000000) (disch := first | omega | (refine _root_.id ?_; simp only [pl_int, pl_bool, pl_str, pl_undef, pl_nil, pl_ptr, plA_c, plA_agg, plA_tup, plV_c, plV_agg, List.all_cons, List.all_nil, Bool.and_true, Bool.and_self, eq_self, vi_int, vi_bool, get_app, get_app0, List.getElem?_cons_zero, List.getElem?_cons_succ, Option.join_some, lst_get, getL, upd_at, upd_ne, Nat.reduceBEq])) only [evC_skip, evC_ret, evC_region, evC_seq, ev_t, ev_k, putS_some, upd_l, putS_none, ops_nil, evC_condC, cond_bool, ops_cons, next_some, then_norm, done_ret, putL, getL, Option.bind_some, Option.map_some, evalOp, AV.cells?, readCells, writeCells, get_app, len_app, List.getElem?_cons_zero, List.getElem?_cons_succ, Option.join_some, List.length_cons, List.length_nil, List.append_assoc, List.cons_append, List.nil_append, Nat.zero_add, Nat.reduceAdd, List.drop_zero, List.drop_succ_cons, List.take_zero, List.take_succ_cons, List.take_nil, List.drop_nil, ↓reduceIte, evalRs, evalR, AV.toV0?, mkRes, V0.toAV, and_self, lst_get, eq_self, Bool.not_true, Bool.false_eq_true, List.map_cons, List.map_nil, List.append_nil, setAt, unA, finish_no, r57, e1, b1, hl18y, ht18y, hok18y, Nat.le_refl, get_set lt1]
    exact ⟨y, _, by rw [hR'], (pre_app.trans p1).set (Nat.le_add_right _ 2), y1, (y2.setb (by simp)).base pre_app⟩
theorem cn_ok {p : Pr} {k a : Int} (h : (cnR p k a).2 = 0) : okP (cnR p k a).1 = true := by
  unfold cnR at h ⊢
  by_cases c1 : (0 ≤ k ∧ k ≤ 5) ∧ 0 ≤ a ∧ a ≤ 200
  · rw [if_pos c1] at h ⊢
    by_cases c2 : okH (cutP p.xs k a) p.g = true
    · rw [if_pos c2]; exact c2
    · rw [if_neg c2] at h; simp at h
  · rw [if_neg c1] at h; simp at h
theorem wi_ok {p : Pr} {t : Tm} (h : (wiR p t).2 = 0) : okP (wiR p t).1 = true := by
  unfold wiR at h ⊢
  by_cases c1 : t.at_ = 0 ∧ (0 ≤ t.to ∧ t.to ≤ 5) ∧ 0 ≤ t.ix ∧ t.ix < p.xs.length
  · rw [if_pos c1] at h ⊢
    by_cases c2 : t.to ≤ (p.xs.getD t.ix.toNat ⟨0, 0⟩).k
    · rw [if_pos c2] at h; simp at h
    · rw [if_neg c2] at h ⊢
      by_cases c3 : okH (setN p.xs t.ix.toNat t.to) p.g = true
      · rw [if_pos c3]; exact c3
      · rw [if_neg c3] at h; simp at h
  · rw [if_neg c1] at h; simp at h
theorem tm_ok {p : Pr} {t : Tm} (h : (tmR p t).2 = 0) : okP (tmR p t).1 = true := by
  unfold tmR at h ⊢
  by_cases k1 : t.k = 1
  · rw [if_pos k1] at h ⊢
    by_cases i0 : t.ix = 0
    · rw [if_pos i0] at h ⊢; exact cn_ok h
    · rw [if_neg i0] at h; simp at h
  · rw [if_neg k1] at h ⊢
    by_cases k2 : t.k = 2
    · rw [if_pos k2] at h ⊢; exact wi_ok h
    · rw [if_neg k2] at h; simp at h
/-! What is gained -/
end Go.Proofs.Ytnblibimbggheaa
