/- What functions of the program answer: part Chance. -/
import Derived.Test.YtcfabmmonoljeaaDoorTam4
import Derived.Test.YtcfabmmonoljeaaDoorWear
set_option linter.unusedVariables false
set_option linter.unusedSimpArgs false
set_option linter.unusedSectionVars false
namespace Go.Proofs.YtcfabmmonoljeaaDoor
open Go Go.Proofs.YtcfabmmonoljeaaDoor.VI
set_option maxHeartbeats 16000000
set_option maxRecDepth 20000
/-! Ways are ways -/
theorem wkF_mem {p : Pr} {i : Int} {t : Tm} : ∀ {n : Nat} {k : Int}, t ∈ wkF p i n k → (tmR p t).2 = 0 ∧ ∃ k', k ≤ k' ∧ k' < k + n ∧ t = ⟨2, k', i, 0⟩
  | 0, k, h => by cases h
  | n + 1, k, h => by
    unfold wkF at h
    rcases List.mem_append.1 h with h | h
    · split at h
      · rename_i c
        simp at h; subst h
        exact ⟨c, k, by omega, by omega, rfl⟩
      · cases h
    · obtain ⟨a, k', h1, h2, h3⟩ := wkF_mem h
      exact ⟨a, k', by omega, by omega, h3⟩
theorem wiF_mem {p : Pr} {t : Tm} : ∀ {n : Nat} {i : Int}, t ∈ wiF p n i → (tmR p t).2 = 0 ∧ ∃ k i', (0 ≤ k ∧ k ≤ 5) ∧ i ≤ i' ∧ i' < i + n ∧ t = ⟨2, k, i', 0⟩
  | 0, i, h => by cases h
  | n + 1, i, h => by
    unfold wiF at h
    rcases List.mem_append.1 h with h | h
    · obtain ⟨a, k', h1, h2, h3⟩ := wkF_mem h
      exact ⟨a, k', i, by omega, by omega, by omega, h3⟩
    · obtain ⟨a, k, i', h1, h2, h3, h4⟩ := wiF_mem h
      exact ⟨a, k, i', h1, by omega, by omega, h4⟩
theorem rmF_ok {p : Pr} {k x : Int} : ∀ {n : Nat} {a : Int}, x ∈ rmF p k n a → (tmR p ⟨1, k, 0, x⟩).2 = 0
  | 0, a, h => by cases h
  | n + 1, a, h => by
    unfold rmF at h
    rcases List.mem_append.1 h with h | h
    · split at h
      · rename_i c
        simp at h; subst h; exact c
      · cases h
    · exact rmF_ok h
theorem adF_mem {p : Pr} {t : Tm} : ∀ {n : Nat} {k : Int}, t ∈ adF p n k → (tmR p t).2 = 0 ∧ ∃ k' a, k ≤ k' ∧ k' < k + n ∧ (0 ≤ a ∧ a ≤ 200) ∧ t = ⟨1, k', 0, a⟩
  | 0, k, h => by cases h
  | n + 1, k, h => by
    unfold adF at h
    rcases List.mem_append.1 h with h | h
    · have hr := fun x => rmF_rng (p := p) (k := k) (n := 201) (a := 0) (x := x)
      have ho := fun x => rmF_ok (p := p) (k := k) (n := 201) (a := 0) (x := x)
      cases hl : rmF p k 201 0 with
      | nil => rw [hl] at h; cases h
      | cons a l =>
        rw [hl] at h hr ho
        have h : t ∈ [(⟨1, k, 0, a⟩ : Tm)] := h
        simp at h; subst h
        have := hr a (by simp)
        exact ⟨ho a (by simp), k, a, by omega, by omega, by omega, rfl⟩
    · obtain ⟨a, k', x, h1, h2, h3⟩ := adF_mem h
      exact ⟨a, k', x, by omega, by omega, h3⟩
theorem ways_mem {p : Pr} (hp : p.xs.length ≤ 60) {t : Tm} (h : t ∈ waysP p) : rngT t ∧ (tmR p t).2 = 0 := by
  unfold waysP at h
  rcases List.mem_append.1 h with h | h
  · obtain ⟨a, k, i, h1, h2, h3, rfl⟩ := wiF_mem h
    exact ⟨by unfold rngT; dsimp only; omega, a⟩
  · obtain ⟨a, k, x, h1, h2, h3, rfl⟩ := adF_mem h
    exact ⟨by unfold rngT; dsimp only; omega, a⟩
/-! Tampering by chance -/
def zTm : Tm := ⟨0, 0, 0, 0⟩
abbrev zT : Option Blk := some ⟨37, [.int .i8 0, .int .i8 0, .int .i16 0, .int .i16 0], .own⟩
def ctI (ts : List Tm) (s : Int) : Nat := (rr (nxt s) % (ts.length : Int)).toNat
def ctR (p : Pr) (s : Int) : (Pr × Tm) × Int × Int :=
  if okP p = true then
    if (waysP p).length = 0 then ((zPr, zTm), 0, 6)
    else (((tmR p ((waysP p).getD (ctI (waysP p) s) zTm)).1, (waysP p).getD (ctI (waysP p) s) zTm), nxt s, 0)
  else ((zPr, zTm), 0, 1)
theorem run25 {h : Hf} {s : Int} {H : AHeap} (hh : HfAt H h) : ∃ y J, ev kk 25 [.agg (hfr h), .c (.int .u32 s)] H = some (.tup [.agg (hfr y), .agg (trow (ctR h.pr s).1.2), .c (.int .u32 (ctR h.pr s).2.1), .c (.int .i64 (ctR h.pr s).2.2)], J) ∧ Pre H J ∧ y.pr = (ctR h.pr s).1.1 ∧ HfNw H J y := by
  have hA := hh.app [hfb h, zbl, zT]
  have r59 := v70 hA
  have hl := hfr_len h
  have htk := hfr_t (h := h)
  unfold ctR
  rw [show okP h.pr = okF h from rfl]
  rw [ev_call c25]; unfold k25; rw [evB_eq rfl]
  obtain ⟨R, hR⟩ : ∃ R, R = hfr h := ⟨_, rfl⟩
  cases ok : okF h
  · rw [ok] at r59
    simp only [hfb, ← hR] at r59 hl htk ⊢
    simp (maxSteps := 4000000) (disch := first | omega | (refine _root_.id ?_; simp only [pl_int, pl_bool, pl_str, pl_undef, pl_nil, pl_ptr, plA_c, plA_agg, plA_tup, plV_c, plV_agg, List.all_cons, List.all_nil, Bool.and_true, Bool.and_self, eq_self, vi_int, vi_bool, get_app, get_app0, List.getElem?_cons_zero, List.getElem?_cons_succ, Option.join_some, lst_get, getL, upd_at, upd_ne, Nat.reduceBEq])) only [evC_ret, evC_region, evC_seq, ev_t, ev_k, putS_some, upd_l, putS_none, ops_nil, evC_condC, cond_bool, ops_cons, next_some, then_norm, then_ret, done_ret, putL, getL, Option.bind_some, Option.map_some, evalOp, AV.cells?, readCells, writeCells, get_app, get_app0, set_app, len_app, List.getElem?_cons_zero, List.getElem?_cons_succ, Option.join_some, List.length_cons, List.length_nil, List.append_assoc, List.cons_append, List.nil_append, Nat.zero_add, Nat.reduceAdd, List.drop_zero, List.drop_succ_cons, List.take_zero, List.take_succ_cons, List.take_nil, List.drop_nil, ↓reduceIte, evalRs, evalR, AV.toV0?, mkRes, V0.toAV, and_self, lst_get, eq_self, List.all_cons, List.all_nil, Bool.and_true, Bool.not_false, Bool.false_eq_true, List.map_cons, List.map_nil, List.append_nil, setAt, CV.ok, List.set_cons_zero, List.set_cons_succ, unA, partsA, fillC, finish_no, hl, htk, Nat.le_refl, r59]
    exact ⟨zHf, _, rfl, pre_app, rfl, zHf_nw⟩
  · rw [ok] at r59
    have few := okP_few ok
    obtain ⟨c, J1, e1, p1, o1⟩ := run33 hA ok
    have n1 := TsNw.of o1
    have hmem := fun t => ways_mem (p := h.pr) few (t := t)
    have wf := ways_few (p := h.pr) few
    rw [if_pos rfl]
    generalize waysP h.pr = ts at *
    obtain ⟨q, cap, rfl, hts⟩ := n1
    by_cases h0 : ts.length = 0
    · rw [if_pos h0]
      simp only [hfb, ← hR] at r59 e1 p1 hl htk ⊢
      have e2 : ((ts.length : Int) == 0) = true := by simp [h0]
      have b1 := p1.get (show AHeap.get (H ++ [some ⟨29, R, .own⟩, zbl, zT]) (H.length + 1) = zbl by rw [get_app]; rfl)
      have b2 := p1.get (show AHeap.get (H ++ [some ⟨29, R, .own⟩, zbl, zT]) (H.length + 2) = zT by rw [get_app]; rfl)
      have lt1 := get_some_lt b1
      have lt2 := get_some_lt b2
      have c2 : ∀ X : Option Blk, AHeap.get (J1.set (H.length + 1) X) (H.length + 2) = zT := fun X => by rw [get_neh (by omega)]; exact b2
      have c1 : ∀ X Y : Option Blk, AHeap.get ((J1.set (H.length + 1) X).set (H.length + 2) Y) (H.length + 1) = X := fun X Y => by rw [get_neh (by omega), get_set lt1]
      have lx2 : ∀ X : Option Blk, H.length + 2 < (J1.set (H.length + 1) X).length := fun X => by rw [List.length_set]; exact lt2
      simp (maxSteps := 4000000) (disch := first | omega | (refine _root_.id ?_; simp only [pl_int, pl_bool, pl_str, pl_undef, pl_nil, pl_ptr, plA_c, plA_agg, plA_tup, plV_c, plV_agg, List.all_cons, List.all_nil, Bool.and_true, Bool.and_self, eq_self, vi_int, vi_bool, get_app, get_app0, List.getElem?_cons_zero, List.getElem?_cons_succ, Option.join_some, lst_get, getL, upd_at, upd_ne, Nat.reduceBEq])) only [evC_skip, evC_ret, evC_region, evC_seq, ev_t, ev_k, putS_some, upd_l, putS_none, ops_nil, evC_condC, cond_bool, ops_cons, next_some, then_norm, then_ret, done_ret, putL, getL, Option.bind_some, Option.map_some, evalOp, AV.cells?, readCells, writeCells, get_app0, len_app, List.getElem?_cons_zero, Option.join_some, List.length_cons, List.length_nil, List.append_assoc, List.cons_append, List.nil_append, Nat.zero_add, Nat.reduceAdd, List.drop_zero, List.drop_succ_cons, List.take_zero, List.take_succ_cons, List.take_nil, List.drop_nil, ↓reduceIte, reduceCtorEq, binA, binC, intBin, or_false, or_true, evalRs, evalR, AV.toV0?, mkRes, V0.toAV, and_self, lst_get, eq_self, List.all_cons, List.all_nil, Bool.and_true, Bool.not_true, Bool.false_eq_true, List.map_cons, List.map_nil, List.append_nil, setAt, CV.ok, unA, partsA, fillC, finish_no, hl, htk, Nat.le_refl, r59, e1, e2, b1, c2, c1, get_set (lx2 _)]
      exact ⟨zHf, _, rfl, ((pre_app.trans p1).set (Nat.le_add_right _ 1)).set (Nat.le_add_right _ 2), rfl, zHf_nw⟩
    · rw [if_neg h0]
      obtain ⟨id, m, rfl, hid, hbl, _⟩ := hts (by omega)
      have hrb := rr_b s
      obtain ⟨i, hi⟩ : ∃ i : Nat, i = ctI ts s := ⟨_, rfl⟩
      have hmod : 0 ≤ rr (nxt s) % (ts.length : Int) ∧ rr (nxt s) % (ts.length : Int) < ts.length := ⟨Int.emod_nonneg _ (by omega), Int.emod_lt_of_pos _ (by omega)⟩
      have hil : i < ts.length := by rw [hi]; unfold ctI; omega
      have hgd : ts.getD i zTm = ts[i]'hil := by rw [List.getD_eq_getElem?_getD, List.getElem?_eq_getElem hil]; rfl
      rw [← hi, hgd]
      obtain ⟨ht, htc⟩ := hmem _ (List.getElem_mem hil)
      have hcut := trc hil
      generalize ts[i]'hil = t at *
      have hle : i * 4 + 4 ≤ (trows ts).length := by rw [trowl]; omega
      have hrem : rr (nxt s) % (ts.length : Int) = (i : Int) := by
        rw [hi]; unfold ctI; omega
      have hz : ¬ (ts.length : Int) = 0 := by omega
      have hlt : (i : Int) < ts.length := by omega
      have hsh : vshr .u32 (nxt s) 16 = rr (nxt s) := rfl
      have h0' : ((ts.length : Int) == 0) = false := by simpa using h0
      obtain ⟨y, J2, e2, p2, y1, y2⟩ := run37 ((hA.pre p1).pre (pre_app (t := [some ⟨37, trow t, .own⟩]))) ok ht
      have b0 := p1.get (show AHeap.get (H ++ [hfb h, zbl, zT]) H.length = hfb h by rw [get_app0]; rfl)
      have b1 := p1.get (show AHeap.get (H ++ [hfb h, zbl, zT]) (H.length + 1) = zbl by rw [get_app]; rfl)
      have b2 := p1.get (show AHeap.get (H ++ [hfb h, zbl, zT]) (H.length + 2) = zT by rw [get_app]; rfl)
      have pA : Pre J1 J2 := pre_app.trans p2
      have d0 := p2.get (show AHeap.get (J1 ++ [some ⟨37, trow t, .own⟩]) J1.length = some ⟨37, trow t, .own⟩ by rw [get_app0]; rfl)
      have d1 := pA.get b1
      have d2 := pA.get b2
      have lb0 := get_some_lt b0
      have lt0 := get_some_lt d0
      have lt1 := get_some_lt d1
      have lt2 := get_some_lt d2
      have lJ : H.length + 2 < J1.length := get_some_lt b2
      have pH : Pre H (J2 ++ [hfb y]) := (pre_app.trans (p1.trans pA)).trans pre_app
      have hly := hfr_len y
      have hty := hfr_t (h := y)
      have hoy := hfr_ok (h := y)
      have hyN : HfNw H (((J2.set (H.length + 1) (hfb y)).set (H.length + 2) (some ⟨37, trow t, .own⟩)) ++ [hfb y]) y := by
        have y3 : HfNw (H ++ [hfb h, zbl, zT]) J2 y := y2.base (p1.trans pre_app)
        exact (((y3.setb (by simp)).setb (by simp)).pre pre_app).base pre_app
      have pZ : Pre H (((J2.set (H.length + 1) (hfb y)).set (H.length + 2) (some ⟨37, trow t, .own⟩)) ++ [hfb y]) := (((pre_app.trans (p1.trans pA)).set (Nat.le_add_right _ 1)).set (Nat.le_add_right _ 2)).app _
      have lx0 : ∀ X : Option Blk, J1.length < (J2.set (H.length + 1) X).length := fun X => by rw [List.length_set]; exact lt0
      have lx2 : ∀ X : Option Blk, H.length + 2 < (J2.set (H.length + 1) X).length := fun X => by rw [List.length_set]; exact lt2
      have ly1 : ∀ X Y : Option Blk, H.length + 1 < ((J2.set (H.length + 1) X).set (H.length + 2) Y).length := fun X Y => by rw [List.length_set, List.length_set]; exact lt1
      have ly2 : ∀ X Y : Option Blk, H.length + 2 < ((J2.set (H.length + 1) X).set (H.length + 2) Y).length := fun X Y => by rw [List.length_set, List.length_set]; exact lt2
      have f0 : ∀ X, AHeap.get (J2.set (H.length + 1) X) J1.length = some ⟨37, trow t, .own⟩ := fun X => by rw [get_neh (by omega)]; exact d0
      have f2 : ∀ X, AHeap.get (J2.set (H.length + 1) X) (H.length + 2) = zT := fun X => by rw [get_neh (by omega)]; exact d2
      have g1 : ∀ X Y, AHeap.get ((J2.set (H.length + 1) X).set (H.length + 2) Y) (H.length + 1) = X := fun X Y => by rw [get_neh (by omega), get_set lt1]
      have g2 : ∀ X Y, AHeap.get ((J2.set (H.length + 1) X).set (H.length + 2) Y) (H.length + 2) = Y := fun X Y => by rw [get_set (lx2 X)]
      obtain ⟨Ry, hRy⟩ : ∃ R, R = hfr y := ⟨_, rfl⟩
      generalize (tmR h.pr t) = cr at *
      generalize rr (nxt s) = rs at *
      simp only [hfb, ← hR, ← hRy] at r59 e1 e2 hl htk b0 hly hty hoy hyN pZ ⊢
      simp (maxSteps := 4000000) (disch := first | omega | (refine _root_.id ?_; simp only [pl_int, pl_bool, pl_str, pl_undef, pl_nil, pl_ptr, plA_c, plA_agg, plA_tup, plV_c, plV_agg, List.all_cons, List.all_nil, Bool.and_true, Bool.and_self, eq_self, vi_int, vi_bool, get_app, get_app0, List.getElem?_cons_zero, List.getElem?_cons_succ, Option.join_some, lst_get, getL, upd_at, upd_ne, Nat.reduceBEq])) only [evC_skip, evC_ret, evC_region, evC_seq, ev_t, ev_k, putS_some, upd_l, putS_none, ops_nil, evC_condC, cond_bool, ops_cons, next_some, nextD_some, then_norm, done_ret, putL, getL, Option.bind_some, Option.map_some, evalOp, AV.cells?, readCells, writeCells, get_app0, set_app0, len_app, List.getElem?_cons_zero, List.getElem?_cons_succ, Option.join_some, List.length_cons, List.length_nil, List.append_assoc, List.cons_append, List.nil_append, Nat.zero_add, Nat.reduceAdd, List.drop_zero, List.drop_succ_cons, List.take_zero, List.take_succ_cons, List.take_nil, List.drop_nil, ↓reduceIte, reduceCtorEq, binA, binC, intBin, or_false, or_true, Int.reduceLT, evalRs, evalR, AV.toV0?, mkRes, V0.toAV, and_self, lst_get, eq_self, IntWalk.i64_in, List.all_cons, List.all_nil, Bool.and_true, Bool.not_true, Bool.false_eq_true, List.map_cons, List.map_nil, List.append_nil, setAt, CV.ok, List.set_cons_zero, evC_drawn, dr_nil, dr_cons, chk_nil, chk_cons, re_same, unA, finish_no, tmod_pos, cast_nonneg, cast_toNat, hl, htk, Nat.le_refl, r59, e1, h0', run53, hsh, hz, hrem, hlt, hbl, hle, hcut, b0, e2, hly, hty, hoy, d0, d1, get_appl lb0, get_appl lt0, get_appl lt1, set_appl lt1, get_appl (lx0 _), get_appl (lx2 _), set_appl (lx2 _), f0, f2, get_appl (ly1 _ _), get_appl (ly2 _ _), g1, g2]
      exact ⟨y, _, by rw [hRy], pZ, y1, hyN⟩
theorem run26 {h : Hf} {s : Int} {H : AHeap} (hh : HfAt H h) : ∃ y J, ev kk 26 [.agg (hfr h), .c (.int .u32 s)] H = some (.tup [.agg (hfr y), .agg (trow (ctR h.pr s).1.2), .c (.int .u32 (ctR h.pr s).2.1), .c (.int .i64 (ctR h.pr s).2.2)], J) ∧ Pre H J ∧ y.pr = (ctR h.pr s).1.1 ∧ HfNw H J y := by
  have hA := hh.app [hfb h, zbl, zT]
  have hb : AHeap.get (H ++ [hfb h, zbl, zT]) H.length = hfb h := by rw [get_app0]; rfl
  have r59 := v66 hA hb
  have hl := hfr_len h
  have htk := hfr_t (h := h)
  unfold ctR
  rw [show okP h.pr = okF h from rfl]
  rw [ev_call c26]; unfold k26; rw [evB_eq rfl]
  obtain ⟨R, hR⟩ : ∃ R, R = hfr h := ⟨_, rfl⟩
  cases ok : okF h
  · rw [ok] at r59
    simp only [hfb, ← hR] at r59 hl htk ⊢
    simp (maxSteps := 4000000) (disch := first | omega | (refine _root_.id ?_; simp only [pl_int, pl_bool, pl_str, pl_undef, pl_nil, pl_ptr, plA_c, plA_agg, plA_tup, plV_c, plV_agg, List.all_cons, List.all_nil, Bool.and_true, Bool.and_self, eq_self, vi_int, vi_bool, get_app, get_app0, List.getElem?_cons_zero, List.getElem?_cons_succ, Option.join_some, lst_get, getL, upd_at, upd_ne, Nat.reduceBEq])) only [evC_ret, evC_region, evC_seq, ev_t, ev_k, putS_some, upd_l, putS_none, ops_nil, evC_condC, cond_bool, ops_cons, next_some, then_norm, then_ret, done_ret, putL, getL, Option.bind_some, Option.map_some, evalOp, AV.cells?, readCells, writeCells, get_app, set_app, len_app, List.getElem?_cons_zero, List.getElem?_cons_succ, Option.join_some, List.length_cons, List.length_nil, List.append_assoc, List.cons_append, List.nil_append, Nat.zero_add, Nat.reduceAdd, List.drop_zero, List.drop_succ_cons, List.take_zero, List.take_succ_cons, List.take_nil, List.drop_nil, ↓reduceIte, evalRs, evalR, AV.toV0?, mkRes, V0.toAV, and_self, lst_get, eq_self, List.all_cons, List.all_nil, Bool.and_true, Bool.not_false, Bool.false_eq_true, List.map_cons, List.map_nil, List.append_nil, setAt, CV.ok, List.set_cons_zero, List.set_cons_succ, unA, partsA, fillC, finish_no, Nat.le_refl, r59]
    exact ⟨zHf, _, rfl, pre_app, rfl, zHf_nw⟩
  · rw [ok] at r59
    have few := okP_few ok
    obtain ⟨c, J1, e1, p1, o1⟩ := run35 hA ok hb
    have n1 := TsNw.of o1
    have hmem := fun t => ways_mem (p := h.pr) few (t := t)
    have wf := ways_few (p := h.pr) few
    rw [if_pos rfl]
    generalize waysP h.pr = ts at *
    obtain ⟨q, cap, rfl, hts⟩ := n1
    by_cases h0 : ts.length = 0
    · rw [if_pos h0]
      simp only [hfb, ← hR] at r59 e1 p1 hl htk ⊢
      have e2 : ((ts.length : Int) == 0) = true := by simp [h0]
      have b1 := p1.get (show AHeap.get (H ++ [some ⟨29, R, .own⟩, zbl, zT]) (H.length + 1) = zbl by rw [get_app]; rfl)
      have b2 := p1.get (show AHeap.get (H ++ [some ⟨29, R, .own⟩, zbl, zT]) (H.length + 2) = zT by rw [get_app]; rfl)
      have lt1 := get_some_lt b1
      have lt2 := get_some_lt b2
      have c2 : ∀ X : Option Blk, AHeap.get (J1.set (H.length + 1) X) (H.length + 2) = zT := fun X => by rw [get_neh (by omega)]; exact b2
      have c1 : ∀ X Y : Option Blk, AHeap.get ((J1.set (H.length + 1) X).set (H.length + 2) Y) (H.length + 1) = X := fun X Y => by rw [get_neh (by omega), get_set lt1]
      have lx2 : ∀ X : Option Blk, H.length + 2 < (J1.set (H.length + 1) X).length := fun X => by rw [List.length_set]; exact lt2
      simp (maxSteps := 4000000) (disch := first | omega | (refine _root_.id ?_; simp only [pl_int, pl_bool, pl_str, pl_undef, pl_nil, pl_ptr, plA_c, plA_agg, plA_tup, plV_c, plV_agg, List.all_cons, List.all_nil, Bool.and_true, Bool.and_self, eq_self, vi_int, vi_bool, get_app, get_app0, List.getElem?_cons_zero, List.getElem?_cons_succ, Option.join_some, lst_get, getL, upd_at, upd_ne, Nat.reduceBEq])) only [evC_skip, evC_ret, evC_region, evC_seq, ev_t, ev_k, putS_some, upd_l, putS_none, ops_nil, evC_condC, cond_bool, ops_cons, next_some, then_norm, then_ret, done_ret, putL, getL, Option.bind_some, Option.map_some, evalOp, AV.cells?, readCells, writeCells, len_app, List.length_cons, List.length_nil, List.append_assoc, List.cons_append, List.nil_append, Nat.zero_add, Nat.reduceAdd, List.drop_zero, List.drop_succ_cons, List.take_zero, List.take_succ_cons, List.take_nil, List.drop_nil, ↓reduceIte, reduceCtorEq, binA, binC, intBin, or_false, or_true, evalRs, evalR, AV.toV0?, mkRes, V0.toAV, and_self, lst_get, eq_self, List.all_cons, List.all_nil, Bool.and_true, Bool.not_true, Bool.false_eq_true, List.map_cons, List.map_nil, List.append_nil, setAt, CV.ok, unA, partsA, fillC, finish_no, Nat.le_refl, r59, e1, e2, b1, c2, c1, get_set (lx2 _)]
      exact ⟨zHf, _, rfl, ((pre_app.trans p1).set (Nat.le_add_right _ 1)).set (Nat.le_add_right _ 2), rfl, zHf_nw⟩
    · rw [if_neg h0]
      obtain ⟨id, m, rfl, hid, hbl, _⟩ := hts (by omega)
      have hrb := rr_b s
      obtain ⟨i, hi⟩ : ∃ i : Nat, i = ctI ts s := ⟨_, rfl⟩
      have hmod : 0 ≤ rr (nxt s) % (ts.length : Int) ∧ rr (nxt s) % (ts.length : Int) < ts.length := ⟨Int.emod_nonneg _ (by omega), Int.emod_lt_of_pos _ (by omega)⟩
      have hil : i < ts.length := by rw [hi]; unfold ctI; omega
      have hgd : ts.getD i zTm = ts[i]'hil := by rw [List.getD_eq_getElem?_getD, List.getElem?_eq_getElem hil]; rfl
      rw [← hi, hgd]
      obtain ⟨ht, htc⟩ := hmem _ (List.getElem_mem hil)
      have hcut := trc hil
      generalize ts[i]'hil = t at *
      have hle : i * 4 + 4 ≤ (trows ts).length := by rw [trowl]; omega
      have hrem : rr (nxt s) % (ts.length : Int) = (i : Int) := by
        rw [hi]; unfold ctI; omega
      have hz : ¬ (ts.length : Int) = 0 := by omega
      have hlt : (i : Int) < ts.length := by omega
      have hsh : vshr .u32 (nxt s) 16 = rr (nxt s) := rfl
      have h0' : ((ts.length : Int) == 0) = false := by simpa using h0
      obtain ⟨y, J2, e2, p2, y1, y2⟩ := run38 ((hA.pre p1).pre (pre_app (t := [some ⟨37, trow t, .own⟩]))) ok ht ((p1.app _).get hb)
      have b0 := p1.get (show AHeap.get (H ++ [hfb h, zbl, zT]) H.length = hfb h by rw [get_app0]; rfl)
      have b1 := p1.get (show AHeap.get (H ++ [hfb h, zbl, zT]) (H.length + 1) = zbl by rw [get_app]; rfl)
      have b2 := p1.get (show AHeap.get (H ++ [hfb h, zbl, zT]) (H.length + 2) = zT by rw [get_app]; rfl)
      have pA : Pre J1 J2 := pre_app.trans p2
      have d0 := p2.get (show AHeap.get (J1 ++ [some ⟨37, trow t, .own⟩]) J1.length = some ⟨37, trow t, .own⟩ by rw [get_app0]; rfl)
      have d1 := pA.get b1
      have d2 := pA.get b2
      have lb0 := get_some_lt b0
      have lt0 := get_some_lt d0
      have lt1 := get_some_lt d1
      have lt2 := get_some_lt d2
      have lJ : H.length + 2 < J1.length := get_some_lt b2
      have pH : Pre H (J2 ++ [hfb y]) := (pre_app.trans (p1.trans pA)).trans pre_app
      have hly := hfr_len y
      have hty := hfr_t (h := y)
      have hoy := hfr_ok (h := y)
      have hyN : HfNw H (((J2.set (H.length + 1) (hfb y)).set (H.length + 2) (some ⟨37, trow t, .own⟩)) ++ [hfb y]) y := by
        have y3 : HfNw (H ++ [hfb h, zbl, zT]) J2 y := y2.base (p1.trans pre_app)
        exact (((y3.setb (by simp)).setb (by simp)).pre pre_app).base pre_app
      have pZ : Pre H (((J2.set (H.length + 1) (hfb y)).set (H.length + 2) (some ⟨37, trow t, .own⟩)) ++ [hfb y]) := (((pre_app.trans (p1.trans pA)).set (Nat.le_add_right _ 1)).set (Nat.le_add_right _ 2)).app _
      have lx0 : ∀ X : Option Blk, J1.length < (J2.set (H.length + 1) X).length := fun X => by rw [List.length_set]; exact lt0
      have lx2 : ∀ X : Option Blk, H.length + 2 < (J2.set (H.length + 1) X).length := fun X => by rw [List.length_set]; exact lt2
      have ly1 : ∀ X Y : Option Blk, H.length + 1 < ((J2.set (H.length + 1) X).set (H.length + 2) Y).length := fun X Y => by rw [List.length_set, List.length_set]; exact lt1
      have ly2 : ∀ X Y : Option Blk, H.length + 2 < ((J2.set (H.length + 1) X).set (H.length + 2) Y).length := fun X Y => by rw [List.length_set, List.length_set]; exact lt2
      have f0 : ∀ X, AHeap.get (J2.set (H.length + 1) X) J1.length = some ⟨37, trow t, .own⟩ := fun X => by rw [get_neh (by omega)]; exact d0
      have f2 : ∀ X, AHeap.get (J2.set (H.length + 1) X) (H.length + 2) = zT := fun X => by rw [get_neh (by omega)]; exact d2
      have g1 : ∀ X Y, AHeap.get ((J2.set (H.length + 1) X).set (H.length + 2) Y) (H.length + 1) = X := fun X Y => by rw [get_neh (by omega), get_set lt1]
      have g2 : ∀ X Y, AHeap.get ((J2.set (H.length + 1) X).set (H.length + 2) Y) (H.length + 2) = Y := fun X Y => by rw [get_set (lx2 X)]
      obtain ⟨Ry, hRy⟩ : ∃ R, R = hfr y := ⟨_, rfl⟩
      generalize (tmR h.pr t) = cr at *
      generalize rr (nxt s) = rs at *
      simp only [hfb, ← hR, ← hRy] at r59 e1 e2 hl htk b0 hly hty hoy hyN pZ ⊢
      simp (maxSteps := 4000000) (disch := first | omega | (refine _root_.id ?_; simp only [pl_int, pl_bool, pl_str, pl_undef, pl_nil, pl_ptr, plA_c, plA_agg, plA_tup, plV_c, plV_agg, List.all_cons, List.all_nil, Bool.and_true, Bool.and_self, eq_self, vi_int, vi_bool, get_app, get_app0, List.getElem?_cons_zero, List.getElem?_cons_succ, Option.join_some, lst_get, getL, upd_at, upd_ne, Nat.reduceBEq])) only [evC_skip, evC_ret, evC_region, evC_seq, ev_t, ev_k, putS_some, upd_l, putS_none, ops_nil, evC_condC, cond_bool, ops_cons, next_some, nextD_some, then_norm, done_ret, putL, getL, Option.bind_some, Option.map_some, evalOp, AV.cells?, readCells, writeCells, get_app0, set_app0, len_app, List.getElem?_cons_zero, List.getElem?_cons_succ, Option.join_some, List.length_cons, List.length_nil, List.append_assoc, List.cons_append, List.nil_append, Nat.zero_add, Nat.reduceAdd, List.drop_zero, List.drop_succ_cons, List.take_zero, List.take_succ_cons, List.take_nil, List.drop_nil, ↓reduceIte, reduceCtorEq, binA, binC, intBin, or_false, or_true, Int.reduceLT, evalRs, evalR, AV.toV0?, mkRes, V0.toAV, and_self, lst_get, eq_self, IntWalk.i64_in, List.all_cons, List.all_nil, Bool.and_true, Bool.not_true, Bool.false_eq_true, List.map_cons, List.map_nil, List.append_nil, setAt, CV.ok, List.set_cons_zero, evC_drawn, dr_nil, dr_cons, chk_nil, chk_cons, re_same, unA, finish_no, tmod_pos, cast_nonneg, cast_toNat, Nat.le_refl, r59, e1, h0', run54, hsh, hz, hrem, hlt, hbl, hle, hcut, e2, hly, hty, hoy, d0, d1, get_appl lt0, get_appl lt1, set_appl lt1, get_appl (lx0 _), get_appl (lx2 _), set_appl (lx2 _), f0, f2, get_appl (ly1 _ _), get_appl (ly2 _ _), g1, g2]
      exact ⟨y, _, by rw [hRy], pZ, y1, hyN⟩
end Go.Proofs.YtcfabmmonoljeaaDoor
