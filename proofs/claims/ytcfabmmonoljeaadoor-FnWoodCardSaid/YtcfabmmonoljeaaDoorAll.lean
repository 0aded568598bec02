/- What functions of the program answer: part All. -/
import Derived.Test.YtcfabmmonoljeaaDoorTam4
set_option linter.unusedVariables false
set_option linter.unusedSimpArgs false
set_option linter.unusedSectionVars false
namespace Go.Proofs.YtcfabmmonoljeaaDoor
open Go Go.Proofs.YtcfabmmonoljeaaDoor.VI
set_option maxHeartbeats 16000000
set_option maxRecDepth 20000
/-! Tampering several times -/
def taF (p : Pr) : List Tm → Pr × Int
  | [] => (p, 0)
  | t :: ts => if (tmR p t).2 = 0 then taF (tmR p t).1 ts else (zPr, (tmR p t).2)
theorem taF_step {p : Pr} {ts : List Tm} {i : Nat} (hi : i < ts.length) : taF p (ts.drop i) = if (tmR p (ts[i]'hi)).2 = 0 then taF (tmR p (ts[i]'hi)).1 (ts.drop (i + 1)) else (zPr, (tmR p (ts[i]'hi)).2) := by
  rw [List.drop_eq_getElem_cons hi]; rfl
def taR (p : Pr) (ts : List Tm) : (Pr × Int) × Int :=
  if okP p = true then
    if 40 < ts.length then ((zPr, 0), 2)
    else if (taF p ts).2 = 0 then (((taF p ts).1, (ts.length : Int)), 0) else ((zPr, 0), (taF p ts).2)
  else ((zPr, 0), 1)
/-- What a loop of tampers leaves. -/
def TaPost (H : AHeap) (b z : Nat) (r : Pr × Int) (stop : Ex) (ex : Ex) (σ' : Sl) (H' : AHeap) : Prop :=
  Pre H H' ∧ H'.get z = zbl ∧ σ' 4 = .c (.ptr (some (z, 0))) ∧ ((r.2 = 0 ∧ ex = stop ∧ ∃ y, H'.get b = hfb y ∧ y.pr = r.1 ∧ HfNw H H' y) ∨ (r.2 ≠ 0 ∧ ex = .ret ∧ σ' 5 = .c (.int .i64 0) ∧ σ' 6 = .c (.int .i64 r.2)))
theorem loop24 {q : Option (Nat × Nat)} {cap : Cap} {ts : List Tm} {H : AHeap} {b z : Nat} (hbz : b ≠ z) (hbH : H.length ≤ b) (hzH : H.length ≤ z) (hlen : ts.length ≤ 40) (hts : Tts H q ts) (hrt : ∀ t ∈ ts, rngT t) : ∀ (n i : Nat) (_ : i + n = ts.length) (y : Hf) (_ : okF y = true) (J : AHeap) (_ : Pre H J) (_ : J.get b = hfb y) (_ : J.get z = zbl) (_ : HfNw H J y) (σ : Sl) (_ : σ 2 = .c (.ptr (some (b, 0)))) (_ : σ 4 = .c (.ptr (some (z, 0)))) (_ : σ 25 = .c (.slice q ts.length cap)) (_ : σ 26 = .c (.int .i64 ts.length)) (_ : σ 27 = .c (.int .i64 i)),
    Post (evC (ev kk) (.loop l24_0) (σ, J)) fun ex σ' H' => TaPost H b z (taF y.pr (ts.drop i)) (.exit 1) ex σ' H' ∧ σ' 2 = .c (.ptr (some (b, 0))) ∧ σ' 1 = σ 1
  | 0, i, hi, y, ok, J, hJ, hb, hz, hy, σ, h2, h4, h25, h26, h27 => by
    have hge : ¬ ((i : Int) < ts.length) := by omega
    have e : ts.drop i = [] := List.drop_eq_nil_of_le (by omega)
    rw [evC_loop, e]
    simp only [evC_exit, evC_region, evC_seq, ev_t, putS_some, ops_nil, evC_condC, cond_bool, ops_cons, next_some, then_norm, then_exit, Option.map_some, evalOp, ↓reduceIte, reduceCtorEq, binA, binC, intBin, or_false, or_true, and_true, decide_false, and_self, eq_self, Bool.false_eq_true, Nat.reduceBEq, post_some, upd_at, upd_ne, l24_0, h2, h26, h27, hge]
    exact ⟨hJ, hz, h4, .inl ⟨rfl, rfl, y, hb, rfl, hy⟩⟩
  | n + 1, i, hi, y, ok, J, hJ, hb, hz, hy, σ, h2, h4, h25, h26, h27 => by
    have hil : i < ts.length := by omega
    have hlt : (i : Int) < ts.length := by omega
    obtain ⟨id, te, m, rfl, hbl⟩ := (hts.pre hJ) (by omega)
    have hle : i * 4 + 4 ≤ (trows ts).length := by rw [trowl]; omega
    have hcut := trc hil
    have ht := hrt _ (List.getElem_mem hil)
    have step := fun y' oy J' => loop24 (q := some (id, 0)) (cap := cap) hbz hbH hzH hlen hts hrt n (i + 1) (by omega) y' oy J'
    rw [evC_loop, taF_step hil]
    generalize ts[i]'hil = t at *
    obtain ⟨y', J2, e2, p2, y1, y2⟩ := run37 (hy.at_.pre (pre_app (t := [some ⟨37, trow t, .own⟩]))) ok ht
    have lb := get_some_lt hb
    have lz := get_some_lt hz
    have pA : Pre J J2 := pre_app.trans p2
    have d0 := p2.get (show AHeap.get (J ++ [some ⟨37, trow t, .own⟩]) J.length = some ⟨37, trow t, .own⟩ by rw [get_app0]; rfl)
    have db := pA.get hb
    have dz := pA.get hz
    have lb2 := get_some_lt db
    have lz2 := get_some_lt dz
    have hl := hfr_len y
    have htk := hfr_t (h := y)
    have hly := hfr_len y'
    have hty := hfr_t (h := y')
    have hoy := hfr_ok (h := y')
    have pHJ : Pre H J2 := hJ.trans pA
    have hdr : (hfr y).drop 18 = [] := List.drop_eq_nil_of_le (by rw [hl]; exact Nat.le_refl _)
    obtain ⟨R, hR⟩ : ∃ R, R = hfr y := ⟨_, rfl⟩
    obtain ⟨Ry, hRy⟩ : ∃ R, R = hfr y' := ⟨_, rfl⟩
    by_cases hc : (tmR y.pr t).2 = 0
    · rw [if_pos hc, ← y1]
      rw [hc] at e2
      have oy : okF y' = true := by
        have := tm_ok hc; rw [← y1] at this; exact this
      have hnw : HfNw H (J2.set b (hfb y') ++ [hfb y']) y' := by
        have h3 : HfNw J J2 y' := y2.base pre_app
        exact ((h3.setb lb).pre pre_app).base hJ
      have gb : AHeap.get (J2.set b (hfb y') ++ [hfb y']) b = hfb y' := by rw [get_set_app lb2]
      have gz : AHeap.get (J2.set b (hfb y') ++ [hfb y']) z = zbl := by
        rw [get_appl (by rw [List.length_set]; exact lz2), get_neh (Ne.symm hbz)]; exact dz
      have stepK := step y' oy (J2.set b (hfb y') ++ [hfb y']) ((pHJ.set hbH).app _) gb gz hnw
      clear step
      simp only [hfb, ← hR, ← hRy] at e2 hl hdr htk hb hly hty hoy stepK db
      simp (maxSteps := 4000000) (disch := first | omega | (refine _root_.id ?_; simp only [pl_int, pl_bool, pl_str, pl_undef, pl_nil, pl_ptr, plA_c, plA_agg, plA_tup, plV_c, plV_agg, List.all_cons, List.all_nil, Bool.and_true, Bool.and_self, eq_self, vi_int, vi_bool, get_app, get_app0, List.getElem?_cons_zero, List.getElem?_cons_succ, Option.join_some, lst_get, getL, upd_at, upd_ne, Nat.reduceBEq])) only [evC_skip, evC_region, evC_seq, evC_block, ev_t, ev_k, putS_some, putS_none, ops_nil, evC_condC, cond_bool, ops_cons, next_some, then_norm, out_norm, Option.map_some, evalOp, AV.cells?, readCells, writeCells, get_app0, set_app0, List.getElem?_cons_zero, List.getElem?_cons_succ, Option.join_some, List.length_cons, List.length_nil, List.nil_append, Nat.zero_add, Nat.reduceAdd, List.drop_zero, List.drop_succ_cons, List.take_zero, List.take_succ_cons, List.take_nil, List.drop_nil, ↓reduceIte, reduceCtorEq, binA, binC, intBin, or_false, or_true, V0.toAV, decide_true, and_self, eq_self, IntWalk.i64_in, List.all_cons, List.all_nil, Bool.and_true, Bool.false_eq_true, List.map_cons, List.map_nil, List.append_nil, setAt, CV.ok, bne_self_eq_false, List.set_cons_zero, upd_at, upd_ne, cast_nonneg, cast_toNat, l24_0, h2, h25, h26, h27, hlt, hbl, hle, hcut, get_appl lb, hb, hl, htk, Nat.le_refl, e2, hly, hoy, hty, get_appl lb2, set_appl lb2, db, hdr, List.append_nil]
      exact Post.mono (stepK _ (by simp only [upd_ne, Nat.reduceBEq, h2]) (by simp only [upd_ne, Nat.reduceBEq, h4]) (by simp only [upd_ne, Nat.reduceBEq, h25]) (by simp only [upd_ne, Nat.reduceBEq, h26]) (by simp only [upd_at]; rfl)) (fun ex σ' H' q => ⟨q.1, q.2.1, q.2.2.trans (by simp only [upd_ne, Nat.reduceBEq])⟩)
    · rw [if_neg hc]
      have hc' : ((tmR y.pr t).2 != 0) = true := by simpa using hc
      have gz : ∀ X, AHeap.get (J2.set z X ++ [hfb y']) z = X := fun X => by rw [get_set_app lz2]
      have pZ : ∀ X, Pre H (J2.set z X ++ [hfb y']) := fun X => (pHJ.set hzH).app _
      generalize tmR y.pr t = cr at *
      clear step
      simp only [hfb, ← hR, ← hRy] at e2 hl htk hb hly hty hoy gz pZ
      simp (maxSteps := 4000000) (disch := first | omega | (refine _root_.id ?_; simp only [pl_int, pl_bool, pl_str, pl_undef, pl_nil, pl_ptr, plA_c, plA_agg, plA_tup, plV_c, plV_agg, List.all_cons, List.all_nil, Bool.and_true, Bool.and_self, eq_self, vi_int, vi_bool, get_app, get_app0, List.getElem?_cons_zero, List.getElem?_cons_succ, Option.join_some, lst_get, getL, upd_at, upd_ne, Nat.reduceBEq])) only [evC_skip, evC_ret, evC_region, evC_seq, evC_block, ev_t, ev_k, putS_some, putS_none, ops_nil, evC_condC, cond_bool, ops_cons, next_some, then_norm, then_ret, out_ret, Option.map_some, evalOp, AV.cells?, readCells, writeCells, get_app0, set_app0, List.getElem?_cons_zero, List.getElem?_cons_succ, Option.join_some, List.length_cons, List.length_nil, List.nil_append, Nat.zero_add, Nat.reduceAdd, List.drop_zero, List.drop_succ_cons, List.take_zero, List.take_succ_cons, List.take_nil, List.drop_nil, ↓reduceIte, reduceCtorEq, binA, binC, intBin, or_false, or_true, and_true, V0.toAV, decide_true, and_self, eq_self, List.all_cons, List.all_nil, Bool.and_true, List.map_cons, List.map_nil, List.append_nil, setAt, CV.ok, List.set_cons_zero, partsA, fillC, post_some, upd_at, upd_ne, cast_nonneg, cast_toNat, l24_0, h2, h4, h25, h26, h27, hlt, hbl, hle, hcut, get_appl lb, hb, hl, htk, Nat.le_refl, e2, hly, hoy, hc', get_appl lz2, set_appl lz2, dz, upd_at, upd_ne]
      exact ⟨pZ _, gz _, h4, .inr ⟨hc, rfl, by simp only [upd_at, upd_ne, Nat.reduceBEq], by simp only [upd_at]⟩⟩
theorem HfNw.setz {G J : AHeap} {y : Hf} {z : Nat} {b : Option Blk} {r : List CV} {m : BM} (h : HfNw G J y) (hz : J.get z = some ⟨29, r, m⟩) : HfNw G (J.set z b) y := ⟨h.few, h.rng, fun h0 => by
  obtain ⟨id, m, h1, h2, h3, h4⟩ := h.new h0
  have : id ≠ z := fun e => by
    rw [e, hz] at h3
    injection h3 with h3; injection h3 with h3; exact absurd h3 (by decide)
  exact ⟨id, m, h1, h2, by rw [get_neh this]; exact h3, h4⟩⟩
theorem run24 {h : Hf} {c : CV} {ts : List Tm} {H : AHeap} (hh : HfAt H h) (hts : TsAt H c ts) (few : ts.length ≤ 1048576) (hrt : ∀ t ∈ ts, rngT t) : ∃ y J, ev kk 24 [.agg (hfr h), .c c] H = some (.tup [.agg (hfr y), .c (.int .i64 (taR h.pr ts).1.2), .c (.int .i64 (taR h.pr ts).2)], J) ∧ Pre H J ∧ y.pr = (taR h.pr ts).1.1 ∧ HfNw H J y := by
  obtain ⟨q, cap, rfl, hq⟩ := hts
  have hA := hh.app [hfb h, zbl]
  have r59 := v70 hA
  have hl := hfr_len h
  have htk := hfr_t (h := h)
  have hdr : (hfr h).drop 18 = [] := List.drop_eq_nil_of_le (by rw [hl]; exact Nat.le_refl _)
  unfold taR
  rw [show okP h.pr = okF h from rfl]
  rw [ev_call c24]; unfold k24; rw [evB_eq rfl]
  cases ok : okF h
  · rw [ok] at r59
    obtain ⟨R, hR⟩ : ∃ R, R = hfr h := ⟨_, rfl⟩
    simp only [hfb, ← hR] at r59 hl htk ⊢
    simp (maxSteps := 4000000) (disch := first | omega | (refine _root_.id ?_; simp only [pl_int, pl_bool, pl_str, pl_undef, pl_nil, pl_ptr, plA_c, plA_agg, plA_tup, plV_c, plV_agg, List.all_cons, List.all_nil, Bool.and_true, Bool.and_self, eq_self, vi_int, vi_bool, get_app, get_app0, List.getElem?_cons_zero, List.getElem?_cons_succ, Option.join_some, lst_get, getL, upd_at, upd_ne, Nat.reduceBEq])) only [evC_ret, evC_region, evC_seq, evC_block, ev_t, ev_k, putS_some, upd_l, putS_none, ops_nil, evC_condC, cond_bool, ops_cons, next_some, then_norm, then_ret, out_ret, done_ret, putL, getL, Option.bind_some, Option.map_some, evalOp, AV.cells?, readCells, writeCells, get_app, get_app0, set_app, len_app, List.getElem?_cons_zero, List.getElem?_cons_succ, Option.join_some, List.length_cons, List.length_nil, List.append_assoc, List.cons_append, List.nil_append, Nat.zero_add, Nat.reduceAdd, List.drop_zero, List.drop_succ_cons, List.take_zero, List.take_succ_cons, List.take_nil, List.drop_nil, ↓reduceIte, evalRs, evalR, AV.toV0?, mkRes, V0.toAV, and_self, lst_get, eq_self, List.all_cons, List.all_nil, Bool.and_true, Bool.not_false, Bool.false_eq_true, List.map_cons, List.map_nil, List.append_nil, setAt, CV.ok, List.set_cons_zero, List.set_cons_succ, unA, partsA, fillC, finish_no, hl, htk, Nat.le_refl, r59]
    exact ⟨zHf, _, rfl, pre_app, rfl, zHf_nw⟩
  · rw [ok] at r59
    rw [if_pos rfl]
    by_cases h40 : 40 < ts.length
    · rw [if_pos h40]
      have h40' : (40 : Int) < ts.length := by omega
      obtain ⟨R, hR⟩ : ∃ R, R = hfr h := ⟨_, rfl⟩
      simp only [hfb, ← hR] at r59 hl htk ⊢
      simp (maxSteps := 4000000) (disch := first | omega | (refine _root_.id ?_; simp only [pl_int, pl_bool, pl_str, pl_undef, pl_nil, pl_ptr, plA_c, plA_agg, plA_tup, plV_c, plV_agg, List.all_cons, List.all_nil, Bool.and_true, Bool.and_self, eq_self, vi_int, vi_bool, get_app, get_app0, List.getElem?_cons_zero, List.getElem?_cons_succ, Option.join_some, lst_get, getL, upd_at, upd_ne, Nat.reduceBEq])) only [evC_ret, evC_region, evC_seq, evC_block, ev_t, ev_k, putS_some, upd_l, putS_none, ops_nil, evC_condC, cond_bool, ops_cons, next_some, then_norm, then_ret, out_ret, done_ret, putL, getL, Option.bind_some, Option.map_some, evalOp, AV.cells?, readCells, writeCells, get_app, get_app0, set_app, len_app, List.getElem?_cons_zero, List.getElem?_cons_succ, Option.join_some, List.length_cons, List.length_nil, List.append_assoc, List.cons_append, List.nil_append, Nat.zero_add, Nat.reduceAdd, List.drop_zero, List.drop_succ_cons, List.take_zero, List.take_succ_cons, List.take_nil, List.drop_nil, ↓reduceIte, reduceCtorEq, binA, binC, intBin, or_false, or_true, evalRs, evalR, AV.toV0?, mkRes, V0.toAV, decide_true, and_self, lst_get, eq_self, List.all_cons, List.all_nil, Bool.and_true, Bool.not_true, Bool.false_eq_true, List.map_cons, List.map_nil, List.append_nil, setAt, CV.ok, List.set_cons_zero, List.set_cons_succ, unA, partsA, fillC, finish_no, hl, htk, Nat.le_refl, r59, h40']
      exact ⟨zHf, _, rfl, pre_app, rfl, zHf_nw⟩
    · rw [if_neg h40]
      have h40' : ¬ (40 : Int) < ts.length := by omega
      obtain ⟨cc, J, e1, p1, hcl⟩ := run52 (cap := h.cap) hA.few hA.at_
      have b0 : AHeap.get (H ++ [hfb h, zbl]) H.length = hfb h := by rw [get_app0]; rfl
      have b1 : AHeap.get (H ++ [hfb h, zbl]) (H.length + 1) = zbl := by rw [get_app]; rfl
      have d0 := p1.get b0
      have d1 := p1.get b1
      have lt0 := get_some_lt d0
      have lt1 := get_some_lt d1
      obtain ⟨y, hy⟩ : ∃ y : Hf, y.pr = h.pr ∧ hfr y = .bool h.st :: cc :: grow h.g ∧ HfNw (H ++ [hfb h, zbl]) J y := by
        rcases hcl with ⟨hx, hc⟩ | ⟨h0, id, rfl, hid, hbl⟩
        · rcases hc with ⟨cp, rfl⟩ | ⟨q', rfl⟩
          · exact ⟨⟨h.st, none, cp, [], h.g, h.g16⟩, by simp [Hf.pr, hx], rfl, by simp, by simp, fun h0 => by simp at h0⟩
          · exact ⟨⟨h.st, some q', .exact 0, [], h.g, h.g16⟩, by simp [Hf.pr, hx], rfl, by simp, by simp, fun h0 => by simp at h0⟩
        · exact ⟨⟨h.st, some (id, 0), .toEnd 2, h.xs, h.g, h.g16⟩, rfl, rfl, hh.few, hh.rng, fun _ => ⟨id, .opn, rfl, hid, hbl, .inr rfl⟩⟩
      obtain ⟨hy1, hy2, hy3⟩ := hy
      have oky : okF y = true := by rw [show okF y = okP y.pr from rfl, hy1]; exact ok
      have pX : Pre H (J.set H.length (hfb y)) := (pre_app.trans p1).set (Nat.le_refl _)
      have gX : AHeap.get (J.set H.length (hfb y)) H.length = hfb y := by rw [get_set lt0]
      have zX : AHeap.get (J.set H.length (hfb y)) (H.length + 1) = zbl := by rw [get_neh (by omega)]; exact d1
      have nX : HfNw H (J.set H.length (hfb y)) y := (hy3.setb (by simp)).base pre_app
      have L := fun σ => loop24 (σ := σ) (q := q) (cap := cap) (H := H) (b := H.length) (z := H.length + 1) (by omega) (Nat.le_refl _) (by omega) (by omega) hq hrt ts.length 0 (by omega) y oky (J.set H.length (hfb y)) pX gX zX nX
      rw [hy1] at L
      have hcc : ∃ qq mm cp, cc = .slice qq mm cp := by
        rcases hcl with ⟨_, ⟨cp, rfl⟩ | ⟨q', rfl⟩⟩ | ⟨_, id, rfl, _⟩
        · exact ⟨_, _, _, rfl⟩
        · exact ⟨_, _, _, rfl⟩
        · exact ⟨_, _, _, rfl⟩
      clear hcl hy3 nX pX hh hA hrt
      obtain ⟨R, hR⟩ : ∃ R, R = hfr h := ⟨_, rfl⟩
      have hR1 : R[1]? = some (.slice h.p h.xs.length h.cap) := by rw [hR]; rfl
      have hRs : R.take 1 ++ cc :: R.drop 2 = hfr y := by rw [hR, hy2]; rfl
      obtain ⟨qq, mm, cp, rfl⟩ : ∃ qq mm cp, cc = .slice qq mm cp := hcc
      obtain ⟨ex, σ', J2, eL, ⟨pJ, zJ, s4, hP⟩, s2, s1⟩ := L (lst
                      [.agg R, .c (.slice q ts.length cap), .c (.ptr (some (H.length, 0))),
                        .c .undef, .c (.ptr (some (H.length + 1, 0))), .c (.int .i64 0),
                        .c (.int .i64 0), .c .undef, .c .undef, .c .undef, .c .undef,
                        .c (.bool false), .agg R, .c (.bool true), .c (.bool false), .c .undef,
                        .c (.bool false), .c (.slice q ts.length cap), .c (.int .i64 ts.length),
                        .c (.bool false), .c .undef, .c (.ptr (some (H.length, 1))),
                        .c (.slice h.p h.xs.length h.cap), .c (.slice qq mm cp), .c (.ptr (some (H.length, 1))),
                        .c (.slice q ts.length cap), .c (.int .i64 ts.length),
                        .c (.int .i64 0)]) rfl rfl rfl rfl rfl
      have s1 : σ' 1 = .c (.slice q ts.length cap) := s1
      rw [List.drop_zero] at hP
      clear L gX zX b0 b1
      rcases hP with ⟨t0, rfl, y', gb, y1, y2⟩ | ⟨t0, rfl, s5, s6⟩
      · rw [if_pos t0]
        have lz := get_some_lt zJ
        have hly' := hfr_len y'
        have hty' := hfr_t (h := y')
        have hoy' := hfr_ok (h := y')
        obtain ⟨R', hR'⟩ : ∃ R, R = hfr y' := ⟨_, rfl⟩
        obtain ⟨Ry, hRy⟩ : ∃ R, R = hfr y := ⟨_, rfl⟩
        simp only [hfb, ← hR, ← hR', ← hRy] at r59 hl htk hdr e1 d0 hRs eL hly' hty' hoy' gb ⊢
        simp (maxSteps := 4000000) (disch := first | omega | (refine _root_.id ?_; simp only [pl_int, pl_bool, pl_str, pl_undef, pl_nil, pl_ptr, plA_c, plA_agg, plA_tup, plV_c, plV_agg, List.all_cons, List.all_nil, Bool.and_true, Bool.and_self, eq_self, vi_int, vi_bool, get_app, get_app0, List.getElem?_cons_zero, List.getElem?_cons_succ, Option.join_some, lst_get, getL, upd_at, upd_ne, Nat.reduceBEq])) only [evC_skip, evC_ret, evC_region, evC_seq, evC_block, ev_t, ev_k, putS_some, upd_l, putS_none, ops_nil, evC_condC, cond_bool, ops_cons, next_some, then_norm, out_norm, out_exit, done_ret, putL, getL, Option.bind_some, Option.map_some, evalOp, AV.cells?, readCells, readCell, writeCells, get_app0, len_app, List.getElem?_cons_zero, Option.join_some, List.length_cons, List.length_nil, List.append_assoc, List.cons_append, List.nil_append, Nat.zero_add, Nat.reduceAdd, Nat.reduceLeDiff, List.drop_zero, List.drop_succ_cons, List.take_zero, List.drop_nil, ↓reduceIte, reduceCtorEq, binA, binC, intBin, or_false, or_true, evalRs, evalR, AV.toV0?, mkRes, V0.toAV, decide_false, and_self, lst_get, eq_self, List.all_cons, List.all_nil, Bool.and_true, Bool.not_true, Bool.false_eq_true, List.map_cons, List.map_nil, List.append_nil, setAt, CV.ok, unA, finish_no, upd_at, upd_ne, hl, htk, Nat.le_refl, r59, h40', d0, hR1, e1, hRs, eL, gb, hly', hty', hoy', zJ, s1, s2, s4, get_set lz, upd_at, upd_ne]
        exact ⟨y', _, by rw [hR'], pJ.set (Nat.le_add_right _ 1), y1, y2.setz zJ⟩
      · rw [if_neg t0]
        obtain ⟨Ry, hRy⟩ : ∃ R, R = hfr y := ⟨_, rfl⟩
        simp only [hfb, ← hR, ← hRy] at r59 hl htk hdr e1 d0 hRs eL ⊢
        simp (maxSteps := 4000000) (disch := first | omega | (refine _root_.id ?_; simp only [pl_int, pl_bool, pl_str, pl_undef, pl_nil, pl_ptr, plA_c, plA_agg, plA_tup, plV_c, plV_agg, List.all_cons, List.all_nil, Bool.and_true, Bool.and_self, eq_self, vi_int, vi_bool, get_app, get_app0, List.getElem?_cons_zero, List.getElem?_cons_succ, Option.join_some, lst_get, getL, upd_at, upd_ne, Nat.reduceBEq])) only [evC_skip, evC_region, evC_seq, evC_block, ev_t, ev_k, putS_some, upd_l, putS_none, ops_nil, evC_condC, cond_bool, ops_cons, next_some, then_norm, then_ret, out_norm, out_ret, done_ret, putL, getL, Option.bind_some, Option.map_some, evalOp, AV.cells?, readCells, readCell, writeCells, get_app0, len_app, List.getElem?_cons_zero, Option.join_some, List.length_cons, List.length_nil, List.append_assoc, List.cons_append, List.nil_append, Nat.zero_add, Nat.reduceAdd, Nat.reduceLeDiff, List.drop_zero, List.take_succ_cons, List.take_nil, ↓reduceIte, reduceCtorEq, binA, binC, intBin, or_false, or_true, evalRs, evalR, AV.toV0?, mkRes, V0.toAV, decide_false, and_self, lst_get, eq_self, List.all_cons, List.all_nil, Bool.and_true, Bool.not_true, Bool.false_eq_true, List.map_cons, List.map_nil, List.append_nil, setAt, CV.ok, unA, finish_no, hl, htk, Nat.le_refl, r59, h40', d0, hR1, e1, hRs, eL, zJ, s4, s5, s6]
        exact ⟨zHf, _, rfl, pJ, rfl, zHf_nw⟩
end Go.Proofs.YtcfabmmonoljeaaDoor
