/- What functions of the program answer: parts Tam3 LawG MarkH. -/
import Derived.Test.YtcfabmmonoljeaaDoorTam2
import Derived.Test.YtcfabmmonoljeaaDoorSums
import Derived.Test.YtcfabmmonoljeaaDoorLies
/- What functions of the program answer: part Tam3. -/
set_option linter.unusedVariables false
set_option linter.unusedSimpArgs false
set_option linter.unusedSectionVars false
namespace Go.Proofs.YtcfabmmonoljeaaDoor
open Go Go.Proofs.YtcfabmmonoljeaaDoor.VI
set_option maxHeartbeats 16000000
set_option maxRecDepth 20000
/-! Tampering with a half -/
def thR (p : Pr) (t : Tm) : Pr × Int := if okP p = true then tmR p t else (zPr, 1)
theorem hfr_ok {h : Hf} : (hfr h).all CV.ok = true := by simp only [List.all_cons, grow_ok]; rfl
theorem hfr_t {h : Hf} : List.take 18 (hfr h) = hfr h := List.take_of_length_le (by rw [hfr_len]; omega)
theorem run13 {h : Hf} {t : Tm} {H : AHeap} (hh : HfAt H h) (ht : rngT t) : ∃ y J, ev kk 13 [.agg (hfr h), .agg (trow t)] H = some (.tup [.agg (hfr y), .c (.int .i64 (thR h.pr t).2)], J) ∧ Pre H J ∧ y.pr = (thR h.pr t).1 ∧ HfNw H J y := by
  have hA := hh.app [hfb h, some ⟨37, trow t, .own⟩, zbl]
  have b0 : AHeap.get (H ++ [hfb h, some ⟨37, trow t, .own⟩, zbl]) H.length = hfb h := by rw [get_app0]; rfl
  have r57 := v66 hA b0
  unfold thR
  rw [show okP h.pr = okF h from rfl]
  rw [ev_call c13]; unfold k13; rw [evB_eq rfl]
  cases ok : okF h
  · rw [ok] at r57
    simp (maxSteps := 4000000) (disch := first | omega | (refine _root_.id ?_; simp only [pl_int, pl_bool, pl_str, pl_undef, pl_nil, pl_ptr, plA_c, plA_agg, plA_tup, plV_c, plV_agg, List.all_cons, List.all_nil, Bool.and_true, Bool.and_self, eq_self, vi_int, vi_bool, get_app, get_app0, List.getElem?_cons_zero, List.getElem?_cons_succ, Option.join_some, lst_get, getL, upd_at, upd_ne, Nat.reduceBEq])) only [evC_ret, evC_region, evC_seq, ev_t, ev_k, putS_some, upd_l, putS_none, ops_nil, evC_condC, cond_bool, ops_cons, next_some, then_norm, then_ret, done_ret, putL, getL, Option.bind_some, Option.map_some, evalOp, AV.cells?, readCells, writeCells, get_app, set_app, len_app, List.getElem?_cons_zero, List.getElem?_cons_succ, Option.join_some, List.length_cons, List.length_nil, List.append_assoc, List.cons_append, List.nil_append, Nat.zero_add, Nat.reduceAdd, Nat.reduceLeDiff, List.drop_zero, List.drop_succ_cons, List.take_zero, List.take_succ_cons, List.take_nil, List.drop_nil, ↓reduceIte, evalRs, evalR, AV.toV0?, mkRes, V0.toAV, and_self, lst_get, eq_self, List.all_cons, List.all_nil, Bool.and_true, Bool.not_false, Bool.false_eq_true, List.map_cons, List.map_nil, List.append_nil, setAt, CV.ok, List.set_cons_zero, List.set_cons_succ, unA, partsA, fillC, finish_no, r57]
    exact ⟨zHf, _, rfl, pre_app, rfl, zHf_nw⟩
  · rw [ok] at r57
    obtain ⟨y, J, e1, p1, y1, y2⟩ := run38 hA ok ht b0
    have b1 := p1.get (show AHeap.get (H ++ [hfb h, some ⟨37, trow t, .own⟩, zbl]) (H.length + 2) = zbl by rw [get_app]; rfl)
    have lt1 := get_some_lt b1
    have hl18y := hfr_len y
    have ht18y := hfr_t (h := y)
    have hok18y := hfr_ok (h := y)
    obtain ⟨R', hR'⟩ : ∃ R, R = hfr y := ⟨_, rfl⟩
    rw [← hR'] at e1 hl18y ht18y hok18y
    rw [if_pos rfl]
    generalize tmR h.pr t = cr at *
    simp (maxSteps := 4000000) (disch := first | omega | (refine _root_.id ?_; simp only [pl_int, pl_bool, pl_str, pl_undef, pl_nil, pl_ptr, plA_c, plA_agg, plA_tup, plV_c, plV_agg, List.all_cons, List.all_nil, Bool.and_true, Bool.and_self, eq_self, vi_int, vi_bool, get_app, get_app0, List.getElem?_cons_zero, List.getElem?_cons_succ, Option.join_some, lst_get, getL, upd_at, upd_ne, Nat.reduceBEq])) only [evC_skip, evC_ret, evC_region, evC_seq, ev_t, ev_k, putS_some, upd_l, putS_none, ops_nil, evC_condC, cond_bool, ops_cons, next_some, then_norm, done_ret, putL, getL, Option.bind_some, Option.map_some, evalOp, AV.cells?, readCells, writeCells, get_app, len_app, List.getElem?_cons_zero, List.getElem?_cons_succ, Option.join_some, List.length_cons, List.length_nil, List.append_assoc, List.cons_append, List.nil_append, Nat.zero_add, Nat.reduceAdd, List.drop_zero, List.drop_succ_cons, List.take_zero, List.take_succ_cons, List.take_nil, List.drop_nil, ↓reduceIte, evalRs, evalR, AV.toV0?, mkRes, V0.toAV, and_self, lst_get, eq_self, Bool.not_true, Bool.false_eq_true, List.map_cons, List.map_nil, List.append_nil, setAt, unA, finish_no, r57, e1, b1, hl18y, ht18y, hok18y, Nat.le_refl, get_set lt1]
    exact ⟨y, _, by rw [hR'], (pre_app.trans p1).set (Nat.le_add_right _ 2), y1, (y2.setb (by simp)).base pre_app⟩
theorem run12 {h : Hf} {t : Tm} {H : AHeap} (hh : HfAt H h) (ht : rngT t) : ∃ y J, ev kk 12 [.agg (hfr h), .agg (trow t)] H = some (.tup [.agg (hfr y), .c (.int .i64 (thR h.pr t).2)], J) ∧ Pre H J ∧ y.pr = (thR h.pr t).1 ∧ HfNw H J y := by
  have hA := hh.app [hfb h, some ⟨37, trow t, .own⟩, zbl]
  have r59 := v70 hA
  have hl18 := hfr_len h
  have ht18 := hfr_t (h := h)
  unfold thR
  rw [show okP h.pr = okF h from rfl]
  rw [ev_call c12]; unfold k12; rw [evB_eq rfl]
  cases ok : okF h
  · rw [ok] at r59
    obtain ⟨R, hR⟩ : ∃ R, R = hfr h := ⟨_, rfl⟩
    have hzb : hfb h = some ⟨29, R, .own⟩ := by rw [hR]
    rw [hzb] at r59
    rw [← hR] at r59 hl18 ht18 ⊢
    simp (maxSteps := 4000000) (disch := first | omega | (refine _root_.id ?_; simp only [pl_int, pl_bool, pl_str, pl_undef, pl_nil, pl_ptr, plA_c, plA_agg, plA_tup, plV_c, plV_agg, List.all_cons, List.all_nil, Bool.and_true, Bool.and_self, eq_self, vi_int, vi_bool, get_app, get_app0, List.getElem?_cons_zero, List.getElem?_cons_succ, Option.join_some, lst_get, getL, upd_at, upd_ne, Nat.reduceBEq])) only [evC_ret, evC_region, evC_seq, ev_t, ev_k, putS_some, upd_l, putS_none, ops_nil, evC_condC, cond_bool, ops_cons, next_some, then_norm, then_ret, done_ret, putL, getL, Option.bind_some, Option.map_some, evalOp, AV.cells?, readCells, writeCells, get_app, get_app0, set_app, len_app, List.getElem?_cons_zero, List.getElem?_cons_succ, Option.join_some, List.length_cons, List.length_nil, List.append_assoc, List.cons_append, List.nil_append, Nat.zero_add, Nat.reduceAdd, List.drop_zero, List.drop_succ_cons, List.take_zero, List.take_succ_cons, List.take_nil, List.drop_nil, ↓reduceIte, evalRs, evalR, AV.toV0?, mkRes, V0.toAV, and_self, lst_get, eq_self, List.all_cons, List.all_nil, Bool.and_true, Bool.not_false, Bool.false_eq_true, List.map_cons, List.map_nil, List.append_nil, setAt, CV.ok, List.set_cons_zero, List.set_cons_succ, unA, partsA, fillC, finish_no, hl18, ht18, Nat.le_refl, r59]
    exact ⟨zHf, _, rfl, pre_app, rfl, zHf_nw⟩
  · rw [ok] at r59
    obtain ⟨y, J, e1, p1, y1, y2⟩ := run37 hA ok ht
    have b1 := p1.get (show AHeap.get (H ++ [hfb h, some ⟨37, trow t, .own⟩, zbl]) (H.length + 2) = zbl by rw [get_app]; rfl)
    have lt1 := get_some_lt b1
    have hl18y := hfr_len y
    have ht18y := hfr_t (h := y)
    have hok18y := hfr_ok (h := y)
    have pH : Pre H (J.set (H.length + 2) (some ⟨29, hfr y, .own⟩)) := (pre_app.trans p1).set (Nat.le_add_right _ 2)
    obtain ⟨R', hR'⟩ : ∃ R, R = hfr y := ⟨_, rfl⟩
    obtain ⟨R, hR⟩ : ∃ R, R = hfr h := ⟨_, rfl⟩
    have hzb : hfb h = some ⟨29, R, .own⟩ := by rw [hR]
    rw [hzb] at r59 e1
    rw [← hR] at r59 e1 hl18 ht18 ⊢
    rw [← hR'] at e1 hl18y ht18y hok18y
    rw [if_pos rfl]
    generalize tmR h.pr t = cr at *
    simp (maxSteps := 4000000) (disch := first | omega | (refine _root_.id ?_; simp only [pl_int, pl_bool, pl_str, pl_undef, pl_nil, pl_ptr, plA_c, plA_agg, plA_tup, plV_c, plV_agg, List.all_cons, List.all_nil, Bool.and_true, Bool.and_self, eq_self, vi_int, vi_bool, get_app, get_app0, List.getElem?_cons_zero, List.getElem?_cons_succ, Option.join_some, lst_get, getL, upd_at, upd_ne, Nat.reduceBEq])) only [evC_skip, evC_ret, evC_region, evC_seq, ev_t, ev_k, putS_some, upd_l, putS_none, ops_nil, evC_condC, cond_bool, ops_cons, next_some, then_norm, done_ret, putL, getL, Option.bind_some, Option.map_some, evalOp, AV.cells?, readCells, writeCells, get_app, get_app0, len_app, List.getElem?_cons_zero, List.getElem?_cons_succ, Option.join_some, List.length_cons, List.length_nil, List.append_assoc, List.cons_append, List.nil_append, Nat.zero_add, Nat.reduceAdd, List.drop_zero, List.drop_succ_cons, List.take_zero, List.take_succ_cons, List.take_nil, List.drop_nil, ↓reduceIte, evalRs, evalR, AV.toV0?, mkRes, V0.toAV, and_self, lst_get, eq_self, Bool.not_true, Bool.false_eq_true, List.map_cons, List.map_nil, List.append_nil, setAt, unA, finish_no, r59, e1, b1, hl18, ht18, hl18y, ht18y, hok18y, Nat.le_refl, get_set lt1]
    exact ⟨y, _, by rw [hR'], pH, y1, (y2.setb (by simp)).base pre_app⟩
theorem cn_ok {p : Pr} {k a : Int} (h : (cnR p k a).2 = 0) : okP (cnR p k a).1 = true := by
  unfold cnR at h ⊢
  by_cases c1 : (0 ≤ k ∧ k ≤ 5) ∧ 0 ≤ a ∧ a ≤ 200
  · rw [if_pos c1] at h ⊢
    by_cases c2 : okH (cutP p.xs k a) p.g = true
    · rw [if_pos c2]; exact c2
    · rw [if_neg c2] at h; simp at h
  · rw [if_neg c1] at h; simp at h
theorem wi_ok {p : Pr} {t : Tm} (h : (wiR p t).2 = 0) : okP (wiR p t).1 = true := by
  unfold wiR at h ⊢
  by_cases c1 : t.at_ = 0 ∧ (0 ≤ t.to ∧ t.to ≤ 5) ∧ 0 ≤ t.ix ∧ t.ix < p.xs.length
  · rw [if_pos c1] at h ⊢
    by_cases c2 : t.to ≤ (p.xs.getD t.ix.toNat ⟨0, 0⟩).k
    · rw [if_pos c2] at h; simp at h
    · rw [if_neg c2] at h ⊢
      by_cases c3 : okH (setN p.xs t.ix.toNat t.to) p.g = true
      · rw [if_pos c3]; exact c3
      · rw [if_neg c3] at h; simp at h
  · rw [if_neg c1] at h; simp at h
theorem tm_ok {p : Pr} {t : Tm} (h : (tmR p t).2 = 0) : okP (tmR p t).1 = true := by
  unfold tmR at h ⊢
  by_cases k1 : t.k = 1
  · rw [if_pos k1] at h ⊢
    by_cases i0 : t.ix = 0
    · rw [if_pos i0] at h ⊢; exact cn_ok h
    · rw [if_neg i0] at h; simp at h
  · rw [if_neg k1] at h ⊢
    by_cases k2 : t.k = 2
    · rw [if_pos k2] at h ⊢; exact wi_ok h
    · rw [if_neg k2] at h; simp at h
theorem th_ok {p : Pr} {t : Tm} (h : (thR p t).2 = 0) : okP p = true ∧ okP (thR p t).1 = true := by
  unfold thR at h ⊢
  cases c : okP p
  · rw [c] at h; simp at h
  · rw [c] at h; simp only [if_true] at h ⊢; exact ⟨trivial, tm_ok h⟩
/-! What is gained -/
def gnR (p : Pr) (t : Tm) : Int × Int := if (thR p t).2 = 0 then (sumN (thR p t).1.xs - sumN p.xs, 0) else (0, (thR p t).2)
theorem sumN_b {xs : List Nt} : 0 ≤ sumN xs ∧ sumN xs ≤ 240000 * xs.length := by
  induction xs with
  | nil => simp [sumN]
  | cons x xs ih =>
    have : 0 ≤ wth x.k ∧ wth x.k ≤ 240000 := by unfold wth; repeat' (split; omega); omega
    simp only [sumN, List.length_cons]; omega
theorem run14 {h : Hf} {t : Tm} {H : AHeap} (hh : HfAt H h) (ht : rngT t) : ev kk 14 [.agg (hfr h), .agg (trow t)] H = some (.tup [.c (.int .i64 (gnR h.pr t).1), .c (.int .i64 (gnR h.pr t).2)], H) := by
  obtain ⟨y, J, e1, p1, y1, y2⟩ := run12 (hh.app [hfb h, some ⟨37, trow t, .own⟩]) ht
  have b0 := p1.get (show AHeap.get (H ++ [hfb h, some ⟨37, trow t, .own⟩]) H.length = hfb h by rw [get_app0]; rfl)
  have lt0 := get_some_lt b0
  have pH : Pre H J := pre_app.trans p1
  have hl18y := hfr_len y
  have ht18y := hfr_t (h := y)
  have hok18y := hfr_ok (h := y)
  have hl18 := hfr_len h
  have ht18 := hfr_t (h := h)
  have fin : ∀ (x : AV) (T : List (Option Blk)), x.plain = true → finish true H x (J ++ T) = some (x, H) := fun x T hx => finish_pre (pH.app T) hx
  unfold gnR
  rw [ev_call c14]; unfold k14; rw [evB_eq rfl]
  by_cases c0 : (thR h.pr t).2 = 0
  · obtain ⟨ok, oy⟩ := th_ok c0
    rw [← y1] at oy
    rw [if_pos c0, ← y1]
    rw [c0] at e1
    have s1 := run39 (h := y) oy (y2.at_.pre (pre_app (t := [some ⟨29, hfr y, .own⟩])))
    have s2 := run39 (h := h) ok ((hh.pre pH).pre (pre_app (t := [some ⟨29, hfr y, .own⟩])))
    have z1 := sumN_b (xs := y.xs)
    have z2 := sumN_b (xs := h.xs)
    have f1 := okF_few (h := y) oy
    have f2 := okF_few (h := h) ok
    obtain ⟨R', hR'⟩ : ∃ R, R = hfr y := ⟨_, rfl⟩
    obtain ⟨R, hR⟩ : ∃ R, R = hfr h := ⟨_, rfl⟩
    have hzb : hfb h = some ⟨29, R, .own⟩ := by rw [hR]
    rw [hzb] at e1
    rw [← hR'] at e1 hl18y ht18y hok18y s1 s2
    rw [← hR] at e1 hl18 ht18 b0 s2 ⊢
    generalize sumN y.xs = sy at *
    generalize sumN h.xs = sh at *
    simp (maxSteps := 4000000) (disch := first | omega | (refine _root_.id ?_; simp only [pl_int, pl_bool, pl_str, pl_undef, pl_nil, pl_ptr, plA_c, plA_agg, plA_tup, plV_c, plV_agg, List.all_cons, List.all_nil, Bool.and_true, Bool.and_self, eq_self, vi_int, vi_bool, get_app, get_app0, List.getElem?_cons_zero, List.getElem?_cons_succ, Option.join_some, lst_get, getL, upd_at, upd_ne, Nat.reduceBEq])) only [evC_skip, evC_ret, evC_region, evC_seq, ev_t, ev_k, putS_some, upd_l, putS_none, ops_nil, evC_condC, cond_bool, ops_cons, next_some, nextD_some, then_norm, done_ret, putL, getL, Option.bind_some, Option.map_some, evalOp, AV.cells?, readCells, writeCells, get_app, get_app0, set_app0, len_app, List.getElem?_cons_zero, List.getElem?_cons_succ, Option.join_some, List.length_cons, List.length_nil, List.append_assoc, List.cons_append, List.nil_append, Nat.zero_add, Nat.reduceAdd, List.drop_zero, List.drop_succ_cons, List.take_zero, List.take_succ_cons, List.take_nil, List.drop_nil, ↓reduceIte, reduceCtorEq, binA, binC, intBin, or_false, or_true, evalRs, evalR, AV.toV0?, mkRes, V0.toAV, and_self, lst_get, eq_self, IntWalk.i64_in, Bool.false_eq_true, List.map_cons, List.map_nil, List.append_nil, setAt, bne_self_eq_false, List.set_cons_zero, evC_drawn, dr_nil, dr_cons, chk_nil, chk_cons, re_same, hl18, ht18, Nat.le_refl, e1, hl18y, ht18y, hok18y, b0, s1, s2, fin, get_appl lt0]
  · rw [if_neg c0]
    have c1 : ((thR h.pr t).2 != 0) = true := by simpa using c0
    generalize thR h.pr t = cr at *
    obtain ⟨R', hR'⟩ : ∃ R, R = hfr y := ⟨_, rfl⟩
    rw [← hR'] at e1 hl18y hok18y
    simp (maxSteps := 4000000) (disch := first | omega | (refine _root_.id ?_; simp only [pl_int, pl_bool, pl_str, pl_undef, pl_nil, pl_ptr, plA_c, plA_agg, plA_tup, plV_c, plV_agg, List.all_cons, List.all_nil, Bool.and_true, Bool.and_self, eq_self, vi_int, vi_bool, get_app, get_app0, List.getElem?_cons_zero, List.getElem?_cons_succ, Option.join_some, lst_get, getL, upd_at, upd_ne, Nat.reduceBEq])) only [evC_ret, evC_region, evC_seq, ev_t, ev_k, putS_some, upd_l, putS_none, ops_nil, evC_condC, cond_bool, ops_cons, next_some, then_norm, then_ret, done_ret, putL, getL, Option.bind_some, Option.map_some, evalOp, AV.cells?, readCells, writeCells, get_app, get_app0, set_app0, len_app, List.getElem?_cons_zero, List.getElem?_cons_succ, Option.join_some, List.length_cons, List.length_nil, List.append_assoc, List.cons_append, List.nil_append, Nat.zero_add, Nat.reduceAdd, List.drop_zero, List.drop_succ_cons, List.take_zero, List.take_succ_cons, List.take_nil, List.drop_nil, ↓reduceIte, reduceCtorEq, binA, binC, intBin, or_false, or_true, evalRs, evalR, AV.toV0?, mkRes, V0.toAV, and_self, lst_get, eq_self, List.map_cons, List.map_nil, List.append_nil, setAt, List.set_cons_zero, hl18, ht18, Nat.le_refl, e1, hl18y, hok18y, c1, fin]
end Go.Proofs.YtcfabmmonoljeaaDoor

/- What functions of the program answer: part LawG. -/
set_option linter.unusedVariables false
set_option linter.unusedSimpArgs false
set_option linter.unusedSectionVars false
namespace Go.Proofs.YtcfabmmonoljeaaDoor
open Go Go.Proofs.YtcfabmmonoljeaaDoor.VI
set_option maxHeartbeats 16000000
set_option maxRecDepth 20000
/-! What a law makes of its arguments -/
structure HfOwn (H J : AHeap) (y : Hf) : Prop where
  few : y.xs.length ≤ 1048576
  rng : ∀ x ∈ y.xs, rngN x
  own : ∃ id, y.p = some (id, 0) ∧ H.length ≤ id ∧ J.get id = ncpy y.xs
theorem HfOwn.nw {H J : AHeap} {y : Hf} (h : HfOwn H J y) : HfNw H J y := by
  obtain ⟨id, h1, h2, h3⟩ := h.own
  exact ⟨by have := h.few; omega, h.rng, fun _ => ⟨id, .own, h1, h2, h3, .inl rfl⟩⟩
theorem HfOwn.at_ {H J : AHeap} {y : Hf} (h : HfOwn H J y) : HfAt J y := h.nw.at_
theorem HfOwn.pre {H J K : AHeap} {y : Hf} (h : HfOwn H J y) (k : Pre J K) : HfOwn H K y := by
  obtain ⟨id, h1, h2, h3⟩ := h.own
  exact ⟨h.few, h.rng, id, h1, h2, k.get h3⟩
end Go.Proofs.YtcfabmmonoljeaaDoor

/- What functions of the program answer: part MarkH. -/
set_option linter.unusedVariables false
set_option linter.unusedSimpArgs false
set_option linter.unusedSectionVars false
namespace Go.Proofs.YtcfabmmonoljeaaDoor
open Go Go.Proofs.YtcfabmmonoljeaaDoor.VI
set_option maxHeartbeats 16000000
set_option maxRecDepth 20000
/-! Marks in notches -/
def mkN1 (k : Int) : Nt := ⟨IntKind.i8.wrap k, IntKind.i16.wrap (k + 1)⟩
def mkN (k : Int) (n : Nat) : List Nt := (List.range n).map fun i : Nat => mkN1 (k + 2 * (i : Int))
/-! .. of halves -/
def MkAt (K : AHeap) (y : Hf) (k : Int) : Prop := 0 < y.xs.length → ∃ id m, y.p = some (id, 0) ∧ K.get id = some ⟨91, nrows (mkN k y.xs.length), m⟩
theorem MkAt.pre {J K : AHeap} {y : Hf} {k : Int} (h : MkAt J y k) (q : Pre J K) : MkAt K y k := fun h0 => by
  obtain ⟨id, m, h1, h2⟩ := h h0; exact ⟨id, m, h1, q.get h2⟩
end Go.Proofs.YtcfabmmonoljeaaDoor
