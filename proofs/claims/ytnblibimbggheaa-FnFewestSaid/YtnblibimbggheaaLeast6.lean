/- What functions of the program answer: part Least6. -/
import Derived.Test.YtnblibimbggheaaLeast5
set_option linter.unusedVariables false
set_option linter.unusedSimpArgs false
set_option linter.unusedSectionVars false
namespace Go.Proofs.Ytnblibimbggheaa
open Go Go.Proofs.Ytnblibimbggheaa.VI
set_option maxHeartbeats 16000000
set_option maxRecDepth 20000
theorem loop47_0 {h : Hf} (ok : okF h = true) {G : AHeap} {b : Nat} (hh : HfAt G h) (hb : G.get b = hfb h) {a : Int} {ts : List Tm} {q : Option (Nat × Nat)} {cap : Cap} (hts : Tts G q ts) (few : ts.length ≤ 366) (hmem : ∀ t ∈ ts, rngT t ∧ (tmR h.pr t).2 = 0) : ∀ (n i : Nat) (_ : i + n = ts.length) (J : AHeap) (_ : Pre G J) (v : AV) (ys : List Hf) (_ : HsOk h.pr G J ys (ts.take i) v) (σ : Sl) (_ : σ 1 = .c (.int .i64 a)) (_ : σ 3 = .c (.ptr (some (b, 0)))) (_ : σ 47 = .c (.slice q ts.length cap)) (_ : σ 48 = .c (.int .i64 ts.length)) (_ : σ 9 = v) (_ : σ 49 = .c (.int .i64 i)),
    Post (evC (ev kk) (.loop l47_0) (σ, J)) fun ex σ' H' => Pre G H' ∧ match ltA h.pr a (ts.drop i) with
      | some t => ex = .ret ∧ σ' 7 = .c (.int .i64 0) ∧ ∃ c, σ' 6 = .c c ∧ TsNw G H' c [t]
      | none => ex = .exit 1 ∧ (∃ ys', HsOk h.pr G H' ys' ts (σ' 9)) ∧ σ' 1 = .c (.int .i64 a) ∧ σ' 8 = σ 8 ∧ σ' 2 = σ 2
  | 0, i, hi, J, hJ, v, ys, ho, σ, h1, h3, h47, h48, h9, h49 => by
    have hge : ¬ ((i : Int) < ts.length) := by omega
    have e0 : ts.drop i = [] := List.drop_eq_nil_of_le (by omega)
    have e1 : ts.take i = ts := List.take_of_length_le (by omega)
    rw [e1] at ho
    rw [evC_loop, e0]
    simp only [evC_exit, evC_region, evC_seq, ev_t, putS_some, ops_nil, evC_condC, cond_bool, ops_cons, next_some, then_norm, then_exit, Option.map_some, evalOp, ↓reduceIte, reduceCtorEq, binA, binC, intBin, or_false, or_true, and_true, true_and, decide_false, and_self, eq_self, Bool.false_eq_true, Nat.reduceBEq, post_some, upd_at, upd_ne, l47_0, h1, h48, h9, h49, hge, ltA]
    exact ⟨hJ, ⟨ys, ho⟩⟩
  | n + 1, i, hi, J, hJ, v, ys, ho, σ, h1, h3, h47, h48, h9, h49 => by
    have hil : i < ts.length := by omega
    have hlt : (i : Int) < ts.length := by omega
    obtain ⟨id, te, tm, rfl, hbl⟩ := (hts.pre hJ) (by omega)
    have hle : i * 4 + 4 ≤ (trows ts).length := by rw [trowl]; omega
    have hcut := trc hil
    have ht := hmem _ (List.getElem_mem hil)
    have etk : ts.take (i + 1) = ts.take i ++ [ts[i]'hil] := by rw [List.take_add_one, List.getElem?_eq_getElem hil]; rfl
    have hyl : ys.length = i := by
      have := congrArg List.length ho.1; simp at this; omega
    have step := loop47_0 ok hh hb (a := a) (q := some (id, 0)) (cap := cap) hts few hmem n (i + 1) (by omega)
    rw [etk] at step
    rw [evC_loop, ltA_step hil]
    generalize ts[i]'hil = t at *
    obtain ⟨y, J2, e2, p2, y1, y2⟩ := run60 ((hh.pre hJ).pre (pre_app (t := [some ⟨38, trow t, .own⟩]))) ok ht.1
    have pA : Pre J J2 := pre_app.trans p2
    have oy : okF y = true := by
      have := tm_ok ht.2; rw [← y1] at this; exact this
    rw [ht.2] at e2
    have s1 := run54 oy (y2.at_.pre (pre_app (t := [hfb y])))
    have d0 := p2.get (show AHeap.get (J ++ [some ⟨38, trow t, .own⟩]) J.length = some ⟨38, trow t, .own⟩ by rw [get_app0]; rfl)
    have ld := get_some_lt d0
    have hbJ := hJ.get hb
    have lb := get_some_lt hbJ
    have hl := hfr_len h
    have htk := hfr_t (h := h)
    have hly := hfr_len y
    have hty := hfr_t (h := y)
    have hoy := hfr_ok (h := y)
    have hsum : sumN (tmR h.pr t).1.xs = sumN y.xs := by rw [← y1]
    rw [hsum]
    by_cases hs : sumN y.xs = a
    · rw [if_pos hs]
      have hs' : (sumN y.xs == a) = true := by simpa using hs
      clear step
      have nT : Pre G J2 → TsNw G (J2 ++ (hfb y :: [some ⟨38, trow t, .own⟩])) (.slice (some (J2.length + 1, 0)) 1 (.exact 1)) [t] := fun q => TsNw.one (by have := q.len; omega) (by rw [get_app]; rfl)
      have nT := nT (hJ.trans pA)
      have pT : Pre G (J2 ++ (hfb y :: [some ⟨38, trow t, .own⟩])) := (hJ.trans pA).app _
      obtain ⟨R, hR⟩ : ∃ R, R = hfr h := ⟨_, rfl⟩
      obtain ⟨Ry, hRy⟩ : ∃ R, R = hfr y := ⟨_, rfl⟩
      simp only [hfb, ← hRy, ← hR] at e2 hl htk hbJ hly hty hoy s1 nT pT
      simp (maxSteps := 4000000) (disch := first | omega | (refine _root_.id ?_; simp only [pl_int, pl_bool, pl_str, pl_undef, pl_nil, pl_ptr, plA_c, plA_agg, plA_tup, plV_c, plV_agg, List.all_cons, List.all_nil, Bool.and_true, Bool.and_self, eq_self, vi_int, vi_bool, get_app, get_app0, List.getElem?_cons_zero, List.getElem?_cons_succ, Option.join_some, lst_get, getL, upd_at, upd_ne, Nat.reduceBEq])) only [evC_skip, evC_ret, evC_region, evC_seq, evC_block, ev_t, ev_k, putS_some, putS_none, ops_nil, evC_condC, cond_bool, ops_cons, next_some, then_norm, then_ret, out_ret, Option.map_some, evalOp, AV.cells?, readCells, writeCells, get_app0, set_app0, len_app, List.getElem?_cons_zero, List.getElem?_cons_succ, Option.join_some, List.length_cons, List.length_nil, List.append_assoc, List.cons_append, List.nil_append, Nat.zero_add, Nat.reduceAdd, List.drop_zero, List.drop_succ_cons, List.take_zero, List.take_succ_cons, List.take_nil, List.drop_nil, ↓reduceIte, reduceCtorEq, binA, binC, intBin, or_false, or_true, true_and, V0.toAV, decide_true, and_self, eq_self, List.all_cons, List.all_nil, Bool.and_true, List.map_cons, List.map_nil, List.append_nil, setAt, CV.ok, List.set_cons_zero, partsA, fillC, post_some, upd_at, upd_ne, cast_nonneg, cast_toNat, l47_0, h1, h3, h47, h48, h49, hlt, hbl, hle, hcut, get_appl lb, hbJ, hl, htk, Nat.le_refl, e2, hly, hoy, hty, s1, hs', d0, get_appl ld]
      exact ⟨pT, _, rfl, nT⟩
    · rw [if_neg hs]
      have hs' : (sumN y.xs == a) = false := by simpa using hs
      have pC : Pre J (J2 ++ (hfb y :: [some ⟨36, hfr y, .own⟩])) := pA.trans pre_app
      obtain ⟨v', K, a1, pK, oK⟩ := (ho.pre pC).step (t := t) (j := J2.length + 1) (cap := .exact 1) (hJ.trans pC) (by rw [get_app]; rfl) ((y2.pre (pre_app (t := hfb y :: [some ⟨36, hfr y, .own⟩]))).base (hJ.trans pre_app)) y1 (by omega)
      have stepK := step K pK v' _ oK
      clear step oK
      obtain ⟨q9, c9, hv⟩ := ho.2.2.isC
      subst hv
      obtain ⟨R, hR⟩ : ∃ R, R = hfr h := ⟨_, rfl⟩
      obtain ⟨Ry, hRy⟩ : ∃ R, R = hfr y := ⟨_, rfl⟩
      simp only [hfb, ← hRy, ← hR] at e2 hl htk hbJ hly hty hoy s1 a1
      simp (maxSteps := 4000000) (disch := first | omega | (refine _root_.id ?_; simp only [pl_int, pl_bool, pl_str, pl_undef, pl_nil, pl_ptr, plA_c, plA_agg, plA_tup, plV_c, plV_agg, List.all_cons, List.all_nil, Bool.and_true, Bool.and_self, eq_self, vi_int, vi_bool, get_app, get_app0, List.getElem?_cons_zero, List.getElem?_cons_succ, Option.join_some, lst_get, getL, upd_at, upd_ne, Nat.reduceBEq])) only [evC_skip, evC_region, evC_seq, evC_block, ev_t, ev_k, putS_some, putS_none, ops_nil, evC_condC, cond_bool, ops_cons, next_some, then_norm, out_norm, Option.map_some, evalOp, AV.cells?, readCells, writeCells, get_app0, set_app0, len_app, List.getElem?_cons_zero, List.getElem?_cons_succ, Option.join_some, List.length_cons, List.length_nil, List.append_assoc, List.cons_append, List.nil_append, Nat.zero_add, Nat.reduceAdd, List.drop_zero, List.drop_succ_cons, List.take_zero, List.take_succ_cons, List.take_nil, List.drop_nil, ↓reduceIte, reduceCtorEq, binA, binC, intBin, or_false, or_true, V0.toAV, decide_true, and_self, eq_self, IntWalk.i64_in, List.all_cons, List.all_nil, Bool.and_true, Bool.false_eq_true, List.map_cons, List.map_nil, List.append_nil, setAt, CV.ok, List.set_cons_zero, partsA, fillC, upd_at, upd_ne, cast_nonneg, cast_toNat, l47_0, h1, h3, h47, h48, h9, h49, hlt, hbl, hle, hcut, get_appl lb, hbJ, hl, htk, Nat.le_refl, e2, hly, hoy, hty, s1, hs', a1]
      exact Post.mono (stepK _ (by simp only [upd_ne, Nat.reduceBEq, h1]) (by simp only [upd_ne, Nat.reduceBEq, h3]) (by simp only [upd_ne, Nat.reduceBEq, h47]) (by simp only [upd_ne, Nat.reduceBEq, h48]) (by simp only [upd_at, upd_ne, Nat.reduceBEq]) (by simp only [upd_at]; rfl)) (fun ex σ' H' q => ⟨q.1, by
        have := q.2
        revert this
        split
        · exact fun q => q
        · rintro ⟨q1, q2, q3, q4, q5⟩; exact ⟨q1, q2, q3, q4.trans (by simp only [upd_ne, Nat.reduceBEq]), q5.trans (by simp only [upd_ne, Nat.reduceBEq])⟩⟩)
theorem loop47_1 {y : Hf} (ok : okF y = true) {G : AHeap} {b i : Nat} (hh : HfAt G y) (hb : G.get b = hfb y) {a : Int} {ts ws : List Tm} {q q' : Option (Nat × Nat)} {cap cap' : Cap} (hts : Tts G q ts) (hit : i < ts.length) (hws : Tts G q' ws) (few : ws.length ≤ 366) (hmem : ∀ t ∈ ws, rngT t ∧ (tmR y.pr t).2 = 0) : ∀ (n j : Nat) (_ : j + n = ws.length) (J : AHeap) (_ : Pre G J) (σ : Sl) (_ : σ 1 = .c (.int .i64 a)) (_ : σ 8 = .c (.slice q ts.length cap)) (_ : σ 15 = .c (.ptr (some (b, 0)))) (_ : σ 14 = .c (.int .i64 i)) (_ : σ 80 = .c (.slice q' ws.length cap')) (_ : σ 81 = .c (.int .i64 ws.length)) (_ : σ 82 = .c (.int .i64 j)),
    Post (evC (ev kk) (.loop l47_1) (σ, J)) fun ex σ' H' => Pre G H' ∧ match ltA y.pr a (ws.drop j) with
      | some w => ex = .ret ∧ σ' 7 = .c (.int .i64 0) ∧ ∃ c, σ' 6 = .c c ∧ TsNw G H' c [ts[i]'hit, w]
      | none => ex = .exit 5 ∧ σ' 1 = .c (.int .i64 a) ∧ σ' 8 = .c (.slice q ts.length cap) ∧ σ' 72 = σ 72 ∧ σ' 73 = σ 73 ∧ σ' 74 = σ 74
  | 0, j, hj, J, hJ, σ, h1, h8, h15, h14, h80, h81, h82 => by
    have hge : ¬ ((j : Int) < ws.length) := by omega
    have e0 : ws.drop j = [] := List.drop_eq_nil_of_le (by omega)
    rw [evC_loop, e0]
    simp only [evC_exit, evC_region, evC_seq, ev_t, putS_some, ops_nil, evC_condC, cond_bool, ops_cons, next_some, then_norm, then_exit, Option.map_some, evalOp, ↓reduceIte, reduceCtorEq, binA, binC, intBin, or_false, or_true, and_true, decide_false, and_self, eq_self, Bool.false_eq_true, Nat.reduceBEq, post_some, upd_at, upd_ne, l47_1, h1, h8, h81, h82, hge, ltA]
    exact hJ
  | n + 1, j, hj, J, hJ, σ, h1, h8, h15, h14, h80, h81, h82 => by
    have hjl : j < ws.length := by omega
    have hlt : (j : Int) < ws.length := by omega
    have hlti : (i : Int) < ts.length := by omega
    obtain ⟨idw, tw, mw, rfl, hbw⟩ := (hws.pre hJ) (by omega)
    obtain ⟨idt, tt, mt, rfl, hbt⟩ := (hts.pre hJ) (by omega)
    have hlew : j * 4 + 4 ≤ (trows ws).length := by rw [trowl]; omega
    have hlet : i * 4 + 4 ≤ (trows ts).length := by rw [trowl]; omega
    have hcutw := trc hjl
    have hcutt := trc hit
    have ht := hmem _ (List.getElem_mem hjl)
    have step := loop47_1 ok hh hb (a := a) (q := some (idt, 0)) (q' := some (idw, 0)) (cap := cap) (cap' := cap') hts hit hws few hmem n (j + 1) (by omega)
    rw [evC_loop, ltA_step hjl]
    generalize ws[j]'hjl = w at *
    generalize ts[i]'hit = t at *
    obtain ⟨z, J2, e2, p2, y1, y2⟩ := run60 ((hh.pre hJ).pre (pre_app (t := [some ⟨38, trow w, .own⟩]))) ok ht.1
    have pA : Pre J J2 := pre_app.trans p2
    have oy : okF z = true := by
      have := tm_ok ht.2; rw [← y1] at this; exact this
    rw [ht.2] at e2
    have s1 := run54 oy (y2.at_.pre (pre_app (t := [hfb z])))
    have d0 := p2.get (show AHeap.get (J ++ [some ⟨38, trow w, .own⟩]) J.length = some ⟨38, trow w, .own⟩ by rw [get_app0]; rfl)
    have ld := get_some_lt d0
    have hbt2 := pA.get hbt
    have lt2 := get_some_lt hbt2
    have hbJ := hJ.get hb
    have lb := get_some_lt hbJ
    have hl := hfr_len y
    have htk := hfr_t (h := y)
    have hly := hfr_len z
    have hty := hfr_t (h := z)
    have hoy := hfr_ok (h := z)
    have hsum : sumN (tmR y.pr w).1.xs = sumN z.xs := by rw [← y1]
    rw [hsum]
    by_cases hs : sumN z.xs = a
    · rw [if_pos hs]
      have hs' : (sumN z.xs == a) = true := by simpa using hs
      clear step
      have nT : Pre G J2 → TsNw G (J2 ++ (hfb z :: [some ⟨38, trow t ++ trow w, .own⟩])) (.slice (some (J2.length + 1, 0)) 2 (.exact 2)) [t, w] := fun q => TsNw.two (by have := q.len; omega) (by rw [get_app]; rfl)
      have nT := nT (hJ.trans pA)
      have pT : Pre G (J2 ++ (hfb z :: [some ⟨38, trow t ++ trow w, .own⟩])) := (hJ.trans pA).app _
      obtain ⟨R, hR⟩ : ∃ R, R = hfr y := ⟨_, rfl⟩
      obtain ⟨Ry, hRy⟩ : ∃ R, R = hfr z := ⟨_, rfl⟩
      simp only [hfb, ← hRy, ← hR] at e2 hl htk hbJ hly hty hoy s1 nT pT
      simp (maxSteps := 4000000) (disch := first | omega | (refine _root_.id ?_; simp only [pl_int, pl_bool, pl_str, pl_undef, pl_nil, pl_ptr, plA_c, plA_agg, plA_tup, plV_c, plV_agg, List.all_cons, List.all_nil, Bool.and_true, Bool.and_self, eq_self, vi_int, vi_bool, get_app, get_app0, List.getElem?_cons_zero, List.getElem?_cons_succ, Option.join_some, lst_get, getL, upd_at, upd_ne, Nat.reduceBEq])) only [evC_skip, evC_ret, evC_region, evC_seq, evC_block, ev_t, ev_k, putS_some, putS_none, ops_nil, evC_condC, cond_bool, ops_cons, next_some, nextD_some, then_norm, then_ret, out_ret, Option.map_some, evalOp, AV.cells?, readCells, writeCells, get_app0, set_app0, len_app, List.getElem?_cons_zero, List.getElem?_cons_succ, Option.join_some, List.length_cons, List.length_nil, List.append_assoc, List.cons_append, List.nil_append, Nat.zero_add, Nat.reduceAdd, Nat.reduceLeDiff, List.drop_zero, List.drop_succ_cons, List.take_zero, List.take_succ_cons, List.take_nil, List.drop_nil, ↓reduceIte, reduceCtorEq, binA, binC, intBin, or_false, or_true, true_and, V0.toAV, decide_true, and_self, eq_self, List.all_cons, List.all_nil, Bool.and_true, List.map_cons, List.map_nil, List.append_nil, setAt, CV.ok, List.set_cons_zero, evC_drawn, dr_nil, dr_cons, chk_nil, partsA, fillC, post_some, upd_at, upd_ne, cast_nonneg, cast_toNat, l47_1, h1, h8, h15, h14, h80, h81, h82, hlt, hlti, hbw, hlew, hlet, hcutw, hcutt, get_appl lb, hbJ, hl, htk, Nat.le_refl, e2, hly, hoy, hty, s1, hs', hbt2, get_appl lt2, d0, get_appl ld]
      exact ⟨pT, _, rfl, nT⟩
    · rw [if_neg hs]
      have hs' : (sumN z.xs == a) = false := by simpa using hs
      have stepK := step (J2 ++ [hfb z]) ((hJ.trans pA).app _)
      clear step
      obtain ⟨R, hR⟩ : ∃ R, R = hfr y := ⟨_, rfl⟩
      obtain ⟨Ry, hRy⟩ : ∃ R, R = hfr z := ⟨_, rfl⟩
      simp only [hfb, ← hRy, ← hR] at e2 hl htk hbJ hly hty hoy s1 stepK
      simp (maxSteps := 4000000) (disch := first | omega | (refine _root_.id ?_; simp only [pl_int, pl_bool, pl_str, pl_undef, pl_nil, pl_ptr, plA_c, plA_agg, plA_tup, plV_c, plV_agg, List.all_cons, List.all_nil, Bool.and_true, Bool.and_self, eq_self, vi_int, vi_bool, get_app, get_app0, List.getElem?_cons_zero, List.getElem?_cons_succ, Option.join_some, lst_get, getL, upd_at, upd_ne, Nat.reduceBEq])) only [evC_skip, evC_region, evC_seq, evC_block, ev_t, ev_k, putS_some, putS_none, ops_nil, evC_condC, cond_bool, ops_cons, next_some, then_norm, out_norm, Option.map_some, evalOp, AV.cells?, readCells, writeCells, get_app0, set_app0, List.getElem?_cons_zero, List.getElem?_cons_succ, Option.join_some, List.length_cons, List.length_nil, List.nil_append, Nat.zero_add, Nat.reduceAdd, List.drop_zero, List.drop_succ_cons, List.take_zero, List.take_succ_cons, List.take_nil, List.drop_nil, ↓reduceIte, reduceCtorEq, binA, binC, intBin, or_false, or_true, V0.toAV, decide_true, and_self, eq_self, IntWalk.i64_in, List.all_cons, List.all_nil, Bool.and_true, Bool.false_eq_true, List.map_cons, List.map_nil, List.append_nil, setAt, CV.ok, List.set_cons_zero, upd_at, upd_ne, cast_nonneg, cast_toNat, l47_1, h1, h15, h80, h81, h82, hlt, hbw, hlew, hcutw, get_appl lb, hbJ, hl, htk, Nat.le_refl, e2, hly, hoy, hty, s1, hs']
      exact Post.mono (stepK _ (by simp only [upd_ne, Nat.reduceBEq, h1]) (by simp only [upd_ne, Nat.reduceBEq, h8]) (by simp only [upd_ne, Nat.reduceBEq, h15]) (by simp only [upd_ne, Nat.reduceBEq, h14]) (by simp only [upd_ne, Nat.reduceBEq, h80]) (by simp only [upd_ne, Nat.reduceBEq, h81]) (by simp only [upd_at]; rfl)) (fun ex σ' H' q => ⟨q.1, by
        have := q.2
        revert this
        split
        · exact fun q => q
        · rintro ⟨q1, q2, q3, q4, q5, q6⟩; exact ⟨q1, q2, q3, q4.trans (by simp only [upd_ne, Nat.reduceBEq]), q5.trans (by simp only [upd_ne, Nat.reduceBEq]), q6.trans (by simp only [upd_ne, Nat.reduceBEq])⟩⟩)
end Go.Proofs.Ytnblibimbggheaa
