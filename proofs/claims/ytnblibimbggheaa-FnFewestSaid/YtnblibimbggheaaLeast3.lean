/- What functions of the program answer: part Least3. -/
import Derived.Test.YtnblibimbggheaaLeast2
set_option linter.unusedVariables false
set_option linter.unusedSimpArgs false
set_option linter.unusedSectionVars false
namespace Go.Proofs.Ytnblibimbggheaa
open Go Go.Proofs.Ytnblibimbggheaa.VI
set_option maxHeartbeats 16000000
set_option maxRecDepth 20000
theorem HsOk.lies {p : Pr} {G J : AHeap} {ys : List Hf} {ts : List Tm} {v : AV} (h : HsOk p G J ys ts v) (h0 : 0 < ys.length) : ∃ id, v = .c (.slice (some (id, 0)) ys.length (.toEnd 18)) ∧ J.get id = some ⟨36, hrows ys, .opn⟩ ∧ ∀ i (hi : i < ys.length), HfO J id (i * 18) (ys[i]'hi) := by
  rcases h.2.2 with ⟨h1, _⟩ | ⟨_, h2, id, h3, _, h5⟩
  · omega
  · refine ⟨id, h3, h5, fun i hi => ⟨_, h5, hr0 hi, hr1 hi, hr2 hi, ?_, ?_, rows_cut hfr_len hi⟩⟩
    · dsimp only; rw [h2]; omega
    · dsimp only; rw [h2]; omega
theorem HsOk.len {p : Pr} {G J : AHeap} {ys : List Hf} {ts : List Tm} {v : AV} (h : HsOk p G J ys ts v) : ys.length = ts.length := by
  have := congrArg List.length h.1; simpa using this
theorem HsOk.pr {p : Pr} {G J : AHeap} {ys : List Hf} {ts : List Tm} {v : AV} (h : HsOk p G J ys ts v) {i : Nat} (hi : i < ys.length) (hi' : i < ts.length) : (ys[i]'hi).pr = (tmR p (ts[i]'hi')).1 := by
  have h1 : (ys.map Hf.pr)[i]'(by simpa using hi) = (ts.map (fun t => (tmR p t).1))[i]'(by simpa using hi') := by simp only [h.1]
  simpa using h1
theorem loop46_1 {y : Hf} (ok : okF y = true) {G : AHeap} {id i N : Nat} {c9 : Cap} (hh : HfAt G y) (hb : HfO G id (i * 18) y) (hiN : i < N) {a : Int} {ts ws : List Tm} {q q' : Option (Nat × Nat)} {cap cap' : Cap} (hts : Tts G q ts) (hit : i < ts.length) (hws : Tts G q' ws) (few : ws.length ≤ 366) (hmem : ∀ t ∈ ws, rngT t ∧ (tmR y.pr t).2 = 0) : ∀ (n j : Nat) (_ : j + n = ws.length) (J : AHeap) (_ : Pre G J) (σ : Sl) (_ : σ 1 = .c (.int .i64 a)) (_ : σ 8 = .c (.slice q ts.length cap)) (_ : σ 9 = .c (.slice (some (id, 0)) N c9)) (_ : σ 13 = .c (.int .i64 i)) (_ : σ 14 = .c (.slice q' ws.length cap')) (_ : σ 15 = .c (.int .i64 j)),
    Post (evC (ev kk) (.loop l46_1) (σ, J)) fun ex σ' H' => Pre G H' ∧ match ltA y.pr a (ws.drop j) with
      | some w => ex = .ret ∧ σ' 7 = .c (.int .i64 0) ∧ ∃ c, σ' 6 = .c c ∧ TsNw G H' c [ts[i]'hit, w]
      | none => ex = .exit 4 ∧ σ' 1 = .c (.int .i64 a) ∧ σ' 8 = .c (.slice q ts.length cap) ∧ σ' 9 = .c (.slice (some (id, 0)) N c9) ∧ σ' 13 = .c (.int .i64 i) ∧ σ' 2 = σ 2
  | 0, j, hj, J, hJ, σ, h1, h8, h9, h13, h14, h15 => by
    have hge : ¬ ((j : Int) < ws.length) := by omega
    have e0 : ws.drop j = [] := List.drop_eq_nil_of_le (by omega)
    rw [evC_loop, e0]
    simp only [evC_exit, evC_region, evC_seq, ev_t, putS_some, ops_nil, evC_condC, cond_bool, ops_cons, next_some, then_norm, then_exit, Option.map_some, evalOp, ↓reduceIte, reduceCtorEq, binA, binC, intBin, or_false, or_true, and_true, decide_false, and_self, eq_self, Bool.false_eq_true, Nat.reduceBEq, post_some, upd_at, upd_ne, l46_1, h1, h8, h9, h13, h14, h15, hge, ltA]
    exact hJ
  | n + 1, j, hj, J, hJ, σ, h1, h8, h9, h13, h14, h15 => by
    have hjl : j < ws.length := by omega
    have hlt : (j : Int) < ws.length := by omega
    have hlti : (i : Int) < ts.length := by omega
    have hltN : (i : Int) < N := by omega
    obtain ⟨idw, tw, mw, rfl, hbw⟩ := (hws.pre hJ) (by omega)
    obtain ⟨idt, tt, mt, rfl, hbt⟩ := (hts.pre hJ) (by omega)
    have hlew : j * 4 + 4 ≤ (trows ws).length := by rw [trowl]; omega
    have hlet : i * 4 + 4 ≤ (trows ts).length := by rw [trowl]; omega
    have hcutw := trc hjl
    have hcutt := trc hit
    have ht := hmem _ (List.getElem_mem hjl)
    have step := loop46_1 ok (c9 := c9) hh hb hiN (a := a) (q := some (idt, 0)) (q' := some (idw, 0)) (cap := cap) (cap' := cap') hts hit hws few hmem n (j + 1) (by omega)
    rw [evC_loop, ltA_step hjl]
    generalize ws[j]'hjl = w at *
    generalize ts[i]'hit = t at *
    obtain ⟨z, J2, e2, pA, y1, y2⟩ := run58o (hh.pre hJ) ok ht.1 (hb.pre hJ)
    have oy : okF z = true := by
      have := tm_ok ht.2; rw [← y1] at this; exact this
    rw [ht.2] at e2
    have s1 := run51 oy (y2.at_.pre (pre_app (t := [hfb z])))
    have hbw2 := pA.get hbw
    have hbt2 := pA.get hbt
    have lw2 := get_some_lt hbw2
    have lt2 := get_some_lt hbt2
    have hly := hfr_len z
    have hty := hfr_t (h := z)
    have hoy := hfr_ok (h := z)
    have hy1 : (hfr z)[1]? = some (.slice z.p z.xs.length z.cap) := rfl
    have hsum : sumN (tmR y.pr w).1.xs = sumN z.xs := by rw [← y1]
    rw [hsum]
    by_cases hs : sumN z.xs = a
    · rw [if_pos hs]
      have hs' : (sumN z.xs == a) = true := by simpa using hs
      clear step
      have nT : Pre G J2 → TsNw G (J2 ++ (hfb z :: [some ⟨38, trow t ++ trow w, .own⟩])) (.slice (some (J2.length + 1, 0)) 2 (.exact 2)) [t, w] := fun q => TsNw.two (by have := q.len; omega) (by rw [get_app]; rfl)
      have nT := nT (hJ.trans pA)
      have pT : Pre G (J2 ++ (hfb z :: [some ⟨38, trow t ++ trow w, .own⟩])) := (hJ.trans pA).app _
      obtain ⟨Ry, hRy⟩ : ∃ R, R = hfr z := ⟨_, rfl⟩
      simp only [hfb, ← hRy] at e2 hly hty hoy hy1 s1 nT pT
      simp (maxSteps := 4000000) (disch := first | omega | (refine _root_.id ?_; simp only [pl_int, pl_bool, pl_str, pl_undef, pl_nil, pl_ptr, plA_c, plA_agg, plA_tup, plV_c, plV_agg, List.all_cons, List.all_nil, Bool.and_true, Bool.and_self, eq_self, vi_int, vi_bool, get_app, get_app0, List.getElem?_cons_zero, List.getElem?_cons_succ, Option.join_some, lst_get, getL, upd_at, upd_ne, Nat.reduceBEq])) only [evC_skip, evC_ret, evC_region, evC_seq, evC_block, ev_t, ev_k, putS_some, putS_none, ops_nil, evC_condC, cond_bool, ops_cons, next_some, nextD_some, then_norm, then_ret, out_ret, Option.map_some, evalOp, AV.cells?, readCells, readCell, writeCells, get_app0, set_app0, len_app, List.getElem?_cons_zero, List.getElem?_cons_succ, Option.join_some, List.length_cons, List.length_nil, List.append_assoc, List.cons_append, List.nil_append, Nat.zero_add, Nat.reduceAdd, Nat.reduceLeDiff, List.drop_zero, List.drop_succ_cons, List.take_zero, List.take_succ_cons, List.drop_nil, ↓reduceIte, reduceCtorEq, binA, binC, intBin, or_false, or_true, true_and, V0.toAV, decide_true, and_self, eq_self, List.map_cons, List.map_nil, List.append_nil, setAt, List.set_cons_zero, evC_drawn, dr_nil, dr_cons, chk_nil, chk_cons, re_same, partsA, fillC, post_some, upd_at, upd_ne, cast_nonneg, cast_toNat, l46_1, h1, h8, h9, h13, h14, h15, hlt, hlti, hltN, hbw, hlew, hlet, hcutw, hcutt, Nat.le_refl, e2, hly, hoy, hy1, s1, hs', hbw2, hbt2, get_appl lw2, get_appl lt2]
      exact ⟨pT, _, rfl, nT⟩
    · rw [if_neg hs]
      have hs' : (sumN z.xs == a) = false := by simpa using hs
      have stepK := step (J2 ++ [hfb z]) ((hJ.trans pA).app _)
      clear step
      obtain ⟨Ry, hRy⟩ : ∃ R, R = hfr z := ⟨_, rfl⟩
      simp only [hfb, ← hRy] at e2 hly hty hoy hy1 s1 stepK
      simp (maxSteps := 4000000) (disch := first | omega | (refine _root_.id ?_; simp only [pl_int, pl_bool, pl_str, pl_undef, pl_nil, pl_ptr, plA_c, plA_agg, plA_tup, plV_c, plV_agg, List.all_cons, List.all_nil, Bool.and_true, Bool.and_self, eq_self, vi_int, vi_bool, get_app, get_app0, List.getElem?_cons_zero, List.getElem?_cons_succ, Option.join_some, lst_get, getL, upd_at, upd_ne, Nat.reduceBEq])) only [evC_skip, evC_region, evC_seq, evC_block, ev_t, ev_k, putS_some, putS_none, ops_nil, evC_condC, cond_bool, ops_cons, next_some, nextD_some, then_norm, out_norm, Option.map_some, evalOp, AV.cells?, readCells, readCell, writeCells, get_app0, set_app0, List.getElem?_cons_zero, List.getElem?_cons_succ, Option.join_some, List.length_cons, List.length_nil, List.nil_append, Nat.zero_add, Nat.reduceAdd, List.drop_succ_cons, List.take_zero, List.drop_nil, ↓reduceIte, reduceCtorEq, binA, binC, intBin, or_false, or_true, V0.toAV, decide_true, and_self, eq_self, IntWalk.i64_in, Bool.false_eq_true, List.map_cons, List.map_nil, List.append_nil, setAt, List.set_cons_zero, evC_drawn, dr_nil, dr_cons, chk_nil, chk_cons, re_same, upd_at, upd_ne, cast_nonneg, cast_toNat, l46_1, h1, h9, h13, h14, h15, hlt, hltN, hbw, hlew, hcutw, Nat.le_refl, e2, hly, hoy, hy1, s1, hs', hbw2, get_appl lw2]
      exact Post.mono (stepK _ (by simp only [upd_ne, Nat.reduceBEq, h1]) (by simp only [upd_ne, Nat.reduceBEq, h8]) (by simp only [upd_ne, Nat.reduceBEq, h9]) (by simp only [upd_ne, Nat.reduceBEq, h13]) (by simp only [upd_ne, Nat.reduceBEq, h14]) (by simp only [upd_at]; rfl)) (fun ex σ' H' q => ⟨q.1, by
        have := q.2
        revert this
        split
        · exact fun q => q
        · rintro ⟨q1, q2, q3, q4, q5, q6⟩; exact ⟨q1, q2, q3, q4, q5, q6.trans (by simp only [upd_ne, Nat.reduceBEq])⟩⟩)
end Go.Proofs.Ytnblibimbggheaa
