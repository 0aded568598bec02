/- What functions of the program answer: part Few2. -/
import Derived.Test.YtnblibimbggheaaFew1
import Derived.Test.YtnblibimbggheaaWay
import Derived.Test.YtnblibimbggheaaAll
import Derived.Test.YtnblibimbggheaaTam2
set_option linter.unusedVariables false
set_option linter.unusedSimpArgs false
set_option linter.unusedSectionVars false
namespace Go.Proofs.Ytnblibimbggheaa
open Go Go.Proofs.Ytnblibimbggheaa.VI
set_option maxHeartbeats 16000000
set_option maxRecDepth 20000
theorem run24 {h : Hf} {H : AHeap} (hh : HfAt H h) (ok : okF h = true) : ev kk 24 [.agg (hfr h)] H = some (.tup [.c (.int .i64 (sumN h.xs)), .c (.int .i64 0)], H) := by
  have hA := hh.app [hfb h]
  have r57 := v66 hA (by rw [get_app0]; rfl)
  rw [ok] at r57
  have s1 := run51 ok hA
  have hR1 : (hfr h)[1]? = some (.slice h.p h.xs.length h.cap) := rfl
  rw [ev_call c24]; unfold k24; rw [evB_eq rfl]
  obtain ⟨R, hR⟩ : ∃ R, R = hfr h := ⟨_, rfl⟩
  simp only [hfb, ← hR] at r57 s1 hR1 ⊢
  simp (maxSteps := 4000000) (disch := first | omega | (refine _root_.id ?_; simp only [pl_int, pl_bool, pl_str, pl_undef, pl_nil, pl_ptr, plA_c, plA_agg, plA_tup, plV_c, plV_agg, List.all_cons, List.all_nil, Bool.and_true, Bool.and_self, eq_self, vi_int, vi_bool, get_app, get_app0, List.getElem?_cons_zero, List.getElem?_cons_succ, Option.join_some, lst_get, getL, upd_at, upd_ne, Nat.reduceBEq])) only [evC_skip, evC_ret, evC_region, evC_seq, ev_t, ev_k, putS_some, upd_l, ops_nil, evC_condC, cond_bool, ops_cons, next_some, then_norm, done_ret, putL, getL, Option.bind_some, Option.map_some, evalOp, AV.cells?, readCell, get_app0, List.getElem?_cons_zero, Option.join_some, Nat.zero_add, ↓reduceIte, evalRs, evalR, AV.toV0?, mkRes, V0.toAV, lst_get, eq_self, finish_app, Bool.not_true, Bool.false_eq_true, List.map_cons, List.map_nil, List.append_nil, unA, r57, hR1, s1]
theorem run49 {h : Hf} {H : AHeap} (hh : HfAt H h) (ok : okF h = true) : ev kk 49 [.agg (hfr h)] H = some (.tup [.c (.int .i64 (sumN h.xs)), .c (.int .i64 0)], H) := by
  have hA := hh.app [hfb h]
  have r59 := v70 hA
  rw [ok] at r59
  have s1 := run54 ok hA
  have hl := hfr_len h
  have htk := hfr_t (h := h)
  rw [ev_call c49]; unfold k49; rw [evB_eq rfl]
  obtain ⟨R, hR⟩ : ∃ R, R = hfr h := ⟨_, rfl⟩
  simp only [hfb, ← hR] at r59 s1 hl htk ⊢
  simp (maxSteps := 4000000) (disch := first | omega | (refine _root_.id ?_; simp only [pl_int, pl_bool, pl_str, pl_undef, pl_nil, pl_ptr, plA_c, plA_agg, plA_tup, plV_c, plV_agg, List.all_cons, List.all_nil, Bool.and_true, Bool.and_self, eq_self, vi_int, vi_bool, get_app, get_app0, List.getElem?_cons_zero, List.getElem?_cons_succ, Option.join_some, lst_get, getL, upd_at, upd_ne, Nat.reduceBEq])) only [evC_skip, evC_ret, evC_region, evC_seq, ev_t, ev_k, putS_some, upd_l, ops_nil, evC_condC, cond_bool, ops_cons, next_some, then_norm, done_ret, putL, getL, Option.bind_some, Option.map_some, evalOp, AV.cells?, readCells, get_app0, List.getElem?_cons_zero, Option.join_some, Nat.zero_add, List.drop_zero, ↓reduceIte, evalRs, evalR, AV.toV0?, mkRes, V0.toAV, lst_get, eq_self, finish_app, Bool.not_true, Bool.false_eq_true, List.map_cons, List.map_nil, List.append_nil, unA, hl, htk, Nat.le_refl, r59, s1]
theorem eq_tms {t : Tm} : eqCells [.int, .int, .int, .int] (trow t) (trow t) = some true := by simp [eqCells, eqC]
theorem loop48 {p q : Option (Nat × Nat)} {cap cap' : Cap} {ts : List Tm} (hlen : ts.length ≤ 4398046511104) {H : AHeap} (hp : Tts H p ts) (hq : Tts H q ts) : ∀ (n i : Nat) (_ : i + n = ts.length) (σ : Sl) (_ : σ 0 = .c (.slice p ts.length cap)) (_ : σ 1 = .c (.slice q ts.length cap')) (_ : σ 5 = .c (.int .i64 i)),
    Post (evC (ev kk) (.loop l48_0) (σ, H)) fun ex σ' H' => ex = .exit 0 ∧ H' = H
  | 0, i, hi, σ, h0, h1, h5 => by
    have hge : ¬ ((i : Int) < ts.length) := by omega
    rw [evC_loop]
    simp only [evC_exit, evC_region, evC_seq, ev_t, putS_some, ops_nil, evC_condC, cond_bool, ops_cons, next_some, then_norm, then_exit, Option.map_some, evalOp, ↓reduceIte, reduceCtorEq, binA, binC, intBin, or_false, or_true, decide_false, and_self, eq_self, Bool.false_eq_true, Nat.reduceBEq, post_some, upd_at, upd_ne, l48_0, h0, h5, hge]
  | n + 1, i, hi, σ, h0, h1, h5 => by
    have hil : i < ts.length := by omega
    have hlt : (i : Int) < ts.length := by omega
    obtain ⟨id, t, m, rfl, hb⟩ := hp (by omega)
    obtain ⟨id', t', m', rfl, hb'⟩ := hq (by omega)
    have hle : i * 4 + 4 ≤ (trows ts).length := by rw [trowl]; omega
    rw [evC_loop]
    simp (maxSteps := 4000000) (disch := first | omega | (refine _root_.id ?_; simp only [pl_int, pl_bool, pl_str, pl_undef, pl_nil, pl_ptr, plA_c, plA_agg, plA_tup, plV_c, plV_agg, List.all_cons, List.all_nil, Bool.and_true, Bool.and_self, eq_self, vi_int, vi_bool, get_app, get_app0, List.getElem?_cons_zero, List.getElem?_cons_succ, Option.join_some, lst_get, getL, upd_at, upd_ne, Nat.reduceBEq])) only [evC_skip, evC_region, evC_seq, evC_block, ev_t, ev_k, putS_some, ops_nil, evC_condC, cond_bool, ops_cons, next_some, nextD_some, then_norm, out_norm, Option.map_some, evalOp, readCells, Nat.zero_add, ↓reduceIte, reduceCtorEq, binA, binC, intBin, or_false, or_true, decide_true, and_self, eq_self, IntWalk.i64_in, Bool.not_true, Bool.false_eq_true, eqRes, evC_drawn, dr_nil, dr_cons, chk_nil, upd_at, upd_ne, cast_nonneg, cast_toNat, l48_0, h0, h1, h5, hlt, hb, hb', hle, trc hil, eq_tms]
    exact loop48 (cap := cap) (cap' := cap') hlen hp hq n (i + 1) (by omega) _ (by simp only [upd_ne, Nat.reduceBEq, h0]) (by simp only [upd_ne, Nat.reduceBEq, h1]) (by simp only [upd_at]; rfl)
theorem sameTs {K : AHeap} {c c' : CV} {ts : List Tm} (few : ts.length ≤ 4398046511104) (h : TsAt K c ts) (h' : TsAt K c' ts) : ev kk 48 [.c c, .c c'] K = some (.c (.bool true), K) := by
  obtain ⟨p, cap, rfl, h1⟩ := h
  obtain ⟨q, cap', rfl, h2⟩ := h'
  have L : ∀ (σ : Sl), σ 0 = .c (.slice p ts.length cap) → σ 1 = .c (.slice q ts.length cap') → σ 5 = .c (.int .i64 0) → _ := fun σ h0 h3 h4 => loop48 few h1 h2 ts.length 0 (by omega) σ h0 h3 h4
  obtain ⟨_, σ', _, eL, rfl, rfl⟩ := L (lst [.c (.slice p ts.length cap), .c (.slice q ts.length cap'), .c .undef, .c .undef, .c (.bool false), .c (.int .i64 0), .c (.slice p ts.length cap), .c (.int .i64 ts.length), .c (.slice q ts.length cap'), .c (.int .i64 ts.length), .c (.bool false)]) rfl rfl rfl
  rw [ev_call c48]; unfold k48; rw [evB_eq rfl]
  simp (maxSteps := 4000000) (disch := first | omega | (refine _root_.id ?_; simp only [pl_int, pl_bool, pl_str, pl_undef, pl_nil, pl_ptr, plA_c, plA_agg, plA_tup, plV_c, plV_agg, List.all_cons, List.all_nil, Bool.and_true, Bool.and_self, eq_self, vi_int, vi_bool, get_app, get_app0, List.getElem?_cons_zero, List.getElem?_cons_succ, Option.join_some, lst_get, getL, upd_at, upd_ne, Nat.reduceBEq])) only [evC_skip, evC_ret, evC_region, evC_seq, evC_block, ev_t, ev_k, putS_some, upd_l, ops_nil, evC_condC, cond_bool, ops_cons, next_some, then_norm, out_exit, done_ret, putL, getL, Option.bind_some, Option.map_some, evalOp, ↓reduceIte, reduceCtorEq, binA, binC, intBin, or_false, or_true, evalRs, evalR, AV.toV0?, mkRes, V0.toAV, lst_get, eq_self, finish_id, Bool.false_eq_true, bne_self_eq_false, upd_at, eL, upd_at]
theorem loop10 {p : Pr} (hp : okP p = true) {G : AHeap} {b : Nat} {c : CV} {l : List Int} (hb : G.length ≤ b) (hc : BtG G c l) (hl : ∀ x ∈ l, 0 ≤ x ∧ x ≤ 255) (lfew : l.length ≤ 4096) : ∀ (k i : Nat) (_ : i + k = 2) (y : Hf) (n : Nat) (_ : n ≤ i) (_ : chn p n y.pr) (J : AHeap) (_ : Pre G J) (_ : HfAt J y) (_ : J.get b = hfb y) (σ : Sl) (_ : σ 1 = .c c) (_ : σ 10 = .c (.ptr (some (b, 0)))) (_ : σ 11 = .c (.int .i64 n)) (_ : σ 12 = .c (.int .u8 i)),
    Post (evC (ev kk) (.loop l10_0) (σ, J)) fun ex σ' H' => ex = .exit 0 ∧ Pre G H' ∧ ∃ y n, n ≤ 2 ∧ chn p n y.pr ∧ H'.get b = hfb y ∧ HfAt H' y ∧ σ' 10 = .c (.ptr (some (b, 0))) ∧ σ' 11 = .c (.int .i64 (n : Nat)) ∧ σ' 5 = σ 5
  | 0, i, hi, y, n, hn, hch, J, hJ, hy, gb, σ, h1, h10, h11, h12 => by
    have hge : ¬ ((i : Int) < 2) := by omega
    rw [evC_loop]
    simp only [evC_exit, evC_region, evC_seq, ev_t, ev_k, putS_some, ops_nil, evC_condC, cond_bool, ops_cons, next_some, then_norm, then_exit, Option.map_some, evalOp, ↓reduceIte, reduceCtorEq, binA, binC, intBin, or_false, or_true, and_true, true_and, decide_false, eq_self, Bool.false_eq_true, Nat.reduceBEq, post_some, upd_at, upd_ne, l10_0, h10, h11, h12, hge]
    exact ⟨hJ, y, n, by omega, hch, gb, hy, rfl⟩
  | k + 1, i, hi, y, n, hn, hch, J, hJ, hy, gb, σ, h1, h10, h11, h12 => by
    have hlt : (i : Int) < 2 := by omega
    have oky : okF y = true := chn_ok hp hch
    have lb := get_some_lt gb
    obtain ⟨c', T, ea, hc'⟩ := btG_cons (G := J ++ [some ⟨5, [.int .u8 i], .own⟩]) (c := c) (l := l) (w := (i : Int)) (j := J.length) ((hc.pre hJ).app [some ⟨5, [.int .u8 i], .own⟩]) (by rw [get_app0]; rfl) (by omega)
    obtain ⟨K0, hK0⟩ : ∃ K, K = J ++ [some ⟨5, [.int .u8 i], .own⟩] ++ T := ⟨_, rfl⟩
    have pA : Pre J K0 := by rw [hK0]; exact pre_app.trans pre_app
    rw [← hK0] at ea hc'
    clear hK0
    have gbK := pA.get gb
    have lbK := get_some_lt gbK
    obtain ⟨t, ok, e28, k1, k0⟩ := run28 (hy.pre pA) oky hc' (fun x hx => by
      rcases List.mem_cons.1 hx with hx | hx
      · omega
      · exact hl x hx)
    have step := fun y' n' (q1 : n' ≤ i + 1) q2 J' q3 q4 q5 => loop10 hp hb hc hl lfew k (i + 1) (by omega) y' n' q1 q2 J' q3 q4 q5
    have hly := hfr_len y
    have hty := hfr_t (h := y)
    rw [evC_loop]
    cases ok
    · have stepK := step y n (by omega) hch (K0 ++ [some ⟨38, trow t, .own⟩]) (hJ.trans (pA.trans pre_app)) (hy.pre (pA.trans pre_app)) ((pA.trans pre_app).get gb)
      clear step
      obtain ⟨R, hR⟩ : ∃ R, R = hfr y := ⟨_, rfl⟩
      simp only [hfb, ← hR] at e28 gb gbK hly hty stepK
      simp (maxSteps := 4000000) (disch := first | omega | (refine _root_.id ?_; simp only [pl_int, pl_bool, pl_str, pl_undef, pl_nil, pl_ptr, plA_c, plA_agg, plA_tup, plV_c, plV_agg, List.all_cons, List.all_nil, Bool.and_true, Bool.and_self, eq_self, vi_int, vi_bool, get_app, get_app0, List.getElem?_cons_zero, List.getElem?_cons_succ, Option.join_some, lst_get, getL, upd_at, upd_ne, Nat.reduceBEq])) only [evC_skip, evC_exit, evC_region, evC_seq, evC_block, ev_t, ev_k, putS_some, putS_none, ops_nil, evC_condC, cond_bool, ops_cons, next_some, nextD_some, then_norm, then_exit, out_exit, Option.map_some, evalOp, AV.cells?, readCells, writeCells, get_app0, set_app0, List.getElem?_cons_zero, List.getElem?_cons_succ, Option.join_some, List.length_cons, List.length_nil, List.nil_append, Nat.zero_add, Nat.reduceAdd, List.drop_zero, List.drop_succ_cons, List.take_zero, List.drop_nil, ↓reduceIte, reduceCtorEq, binA, binC, intBin, or_false, or_true, V0.toAV, decide_true, and_self, eq_self, IntWalk.u8_in, List.all_cons, List.all_nil, Bool.and_true, Bool.not_false, List.map_cons, List.map_nil, List.append_nil, setAt, CV.ok, List.set_cons_zero, evC_drawn, dr_nil, dr_cons, chk_nil, chk_cons, re_same, unA, partsA, fillC, upd_at, upd_ne, l10_0, h1, h10, h12, hlt, get_appl lb, get_appl lbK, gb, gbK, hly, hty, Nat.le_refl, ea, e28]
      exact Post.mono (stepK _ (by simp only [upd_ne, Nat.reduceBEq, h1]) (by simp only [upd_ne, Nat.reduceBEq, h10]) (by simp only [upd_ne, Nat.reduceBEq, h11]) (by simp only [upd_at]; rfl)) (fun ex σ' H' q => by
        obtain ⟨q1, q2, y', n', q3, q4, q5, q6, q7, q8, q9⟩ := q
        exact ⟨q1, q2, y', n', q3, q4, q5, q6, q7, q8, q9.trans (by simp only [upd_ne, Nat.reduceBEq])⟩)
    · have ht := k1 rfl
      have htw := ways_mem (p := y.pr) (okP_few oky) ht
      obtain ⟨z, J2, e17, p17, z1, z2⟩ := run17 (hy.pre (pA.trans (pre_app (t := [some ⟨38, trow t, .own⟩])))) htw.1
      have hth : thR y.pr t = tmR y.pr t := by unfold thR; rw [if_pos (show okP y.pr = true from oky)]
      rw [hth] at z1 e17
      rw [htw.2] at e17
      have pK : Pre J J2 := (pA.trans pre_app).trans p17
      have gb2 := pK.get gb
      have lb2 := get_some_lt gb2
      have d0 := p17.get (show AHeap.get (K0 ++ [some ⟨38, trow t, .own⟩]) K0.length = some ⟨38, trow t, .own⟩ by rw [get_app0]; rfl)
      have hlz := hfr_len z
      have htz := hfr_t (h := z)
      have hoz := hfr_ok (h := z)
      have hdr : (hfr y).drop 18 = [] := List.drop_eq_nil_of_le (by rw [hly]; exact Nat.le_refl _)
      have stepK := step z (n + 1) (by omega) (show chn p (n + 1) z.pr from ⟨y.pr, hch, t, ht, z1⟩) (J2.set b (hfb z) ++ [hfb z]) (((hJ.trans pK).set hb).app _) (((z2.setb (by rw [List.length_append]; omega)).pre pre_app).at_) (by rw [get_set_app lb2])
      clear step
      obtain ⟨R, hR⟩ : ∃ R, R = hfr y := ⟨_, rfl⟩
      obtain ⟨Rz, hRz⟩ : ∃ R, R = hfr z := ⟨_, rfl⟩
      simp only [hfb, ← hR, ← hRz] at e28 gb gbK gb2 hly hty hlz htz hoz hdr stepK e17
      simp (maxSteps := 4000000) (disch := first | omega | (refine _root_.id ?_; simp only [pl_int, pl_bool, pl_str, pl_undef, pl_nil, pl_ptr, plA_c, plA_agg, plA_tup, plV_c, plV_agg, List.all_cons, List.all_nil, Bool.and_true, Bool.and_self, eq_self, vi_int, vi_bool, get_app, get_app0, List.getElem?_cons_zero, List.getElem?_cons_succ, Option.join_some, lst_get, getL, upd_at, upd_ne, Nat.reduceBEq])) only [evC_skip, evC_region, evC_seq, evC_block, ev_t, ev_k, putS_some, putS_none, ops_nil, evC_condC, cond_bool, ops_cons, next_some, nextD_some, then_norm, out_norm, Option.map_some, evalOp, AV.cells?, readCells, writeCells, get_app0, set_app0, List.getElem?_cons_zero, List.getElem?_cons_succ, Option.join_some, List.length_cons, List.length_nil, List.nil_append, Nat.zero_add, Nat.reduceAdd, List.drop_zero, List.drop_succ_cons, List.take_zero, List.take_succ_cons, List.take_nil, List.drop_nil, ↓reduceIte, reduceCtorEq, binA, binC, intBin, or_false, or_true, V0.toAV, decide_true, and_self, eq_self, IntWalk.i64_in, IntWalk.u8_in, List.all_cons, List.all_nil, Bool.and_true, Bool.not_true, Bool.false_eq_true, List.map_cons, List.map_nil, List.append_nil, setAt, CV.ok, bne_self_eq_false, List.set_cons_zero, evC_drawn, dr_nil, dr_cons, chk_nil, chk_cons, re_same, unA, partsA, fillC, upd_at, upd_ne, l10_0, h1, h10, h11, h12, hlt, get_appl lb, get_appl lbK, gb, gbK, hly, hty, Nat.le_refl, ea, e28, e17, hlz, htz, hoz, get_appl lb2, set_appl lb2, gb2, hdr, List.append_nil]
      exact Post.mono (stepK _ (by simp only [upd_ne, Nat.reduceBEq, h1]) (by simp only [upd_ne, Nat.reduceBEq, h10]) (by simp only [upd_at, upd_ne, Nat.reduceBEq]; rfl) (by simp only [upd_at]; rfl)) (fun ex σ' H' q => by
        obtain ⟨q1, q2, y', n', q3, q4, q5, q6, q7, q8, q9⟩ := q
        exact ⟨q1, q2, y', n', q3, q4, q5, q6, q7, q8, q9.trans (by simp only [upd_ne, Nat.reduceBEq])⟩)
end Go.Proofs.Ytnblibimbggheaa
