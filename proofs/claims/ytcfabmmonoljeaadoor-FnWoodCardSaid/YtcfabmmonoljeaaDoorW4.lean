/- What functions of the program answer: parts W4 W5. -/
import Derived.Test.YtcfabmmonoljeaaDoorW3
/- What functions of the program answer: part W4. -/
set_option linter.unusedVariables false
set_option linter.unusedSimpArgs false
set_option linter.unusedSectionVars false
namespace Go.Proofs.YtcfabmmonoljeaaDoor
open Go Go.Proofs.YtcfabmmonoljeaaDoor.VI
set_option maxHeartbeats 64000000
set_option maxRecDepth 20000
/-! Tampering takes wood away -/
theorem v15 {h : Hf} {H : AHeap} (hh : HfAt H h) (ok : okF h = true) : ev kk 15 [.agg (hfr h)] H = some (.tup [.agg (wrow (wdF h)), .c (.int .i64 0)], H) := by
  have e := run15 (cap := h.cap) (st := h.st) h.g16 hh.few hh.rng hh.at_
  have ok' : okH h.xs h.g = true := ok
  rw [show woR h.xs h.g = wdF h by unfold woR; rw [if_pos ok']; rfl, show woC h.xs h.g = 0 by unfold woC; rw [if_pos ok']] at e
  exact e
theorem tm_st {p : Pr} {t : Tm} (h : (tmR p t).2 = 0) : (tmR p t).1.st = p.st := by
  unfold tmR at h ⊢
  by_cases k1 : t.k = 1
  · rw [if_pos k1] at h ⊢
    by_cases i0 : t.ix = 0
    · rw [if_pos i0] at h ⊢
      unfold cnR at h ⊢
      by_cases c : (0 ≤ t.to ∧ t.to ≤ 5) ∧ 0 ≤ t.at_ ∧ t.at_ ≤ 200
      · rw [if_pos c] at h ⊢
        by_cases e : okH (cutP p.xs t.to t.at_) p.g = true
        · rw [if_pos e]
        · rw [if_neg e] at h; exact absurd h (by decide)
      · rw [if_neg c] at h; exact absurd h (by decide)
    · rw [if_neg i0] at h; exact absurd h (by decide)
  · rw [if_neg k1] at h ⊢
    by_cases k2 : t.k = 2
    · rw [if_pos k2] at h ⊢
      unfold wiR at h ⊢
      by_cases c : t.at_ = 0 ∧ (0 ≤ t.to ∧ t.to ≤ 5) ∧ 0 ≤ t.ix ∧ t.ix < p.xs.length
      · rw [if_pos c] at h ⊢
        by_cases e : t.to ≤ (p.xs.getD t.ix.toNat ⟨0, 0⟩).k
        · rw [if_pos e] at h; exact absurd h (by decide)
        · rw [if_neg e] at h ⊢
          by_cases f : okH (setN p.xs t.ix.toNat t.to) p.g = true
          · rw [if_pos f]
          · rw [if_neg f] at h; exact absurd h (by decide)
      · rw [if_neg c] at h; exact absurd h (by decide)
    · rw [if_neg k2] at h; exact absurd h (by decide)
theorem run3 {c d : CV} {l l' : List Int} {H : AHeap} (hc : Bts H c l) (hl : ∀ x ∈ l, 0 ≤ x ∧ x ≤ 255) (hd : Bts H d l') (hl' : ∀ x ∈ l', 0 ≤ x ∧ x ≤ 255) : ev kk 3 [.c c, .c d] H = some (.c (.bool true), H) := by
  obtain ⟨pc, cc, ec⟩ := hc.shape
  obtain ⟨pd, cd, ed⟩ := hd.shape
  have r1 := run6 (H := H) (p := pc) (n := l.length) (c := cc)
  have r2 := run6 (H := H) (p := pd) (n := l'.length) (c := cd)
  rw [← ec] at r1
  rw [← ed] at r2
  by_cases h1 : (4096 : Int) < l.length
  · rw [ev_call c3]; unfold k3; rw [evB_eq rfl]
    simp (maxSteps := 4000000) (disch := first | omega | (refine _root_.id ?_; simp only [pl_int, pl_bool, pl_str, pl_undef, pl_nil, pl_ptr, plA_c, plA_agg, plA_tup, plV_c, plV_agg, List.all_cons, List.all_nil, Bool.and_true, Bool.and_self, eq_self, vi_int, vi_bool, get_app, get_app0, List.getElem?_cons_zero, List.getElem?_cons_succ, Option.join_some, lst_get, getL, upd_at, upd_ne, Nat.reduceBEq])) only [evC_ret, evC_region, evC_seq, ev_t, ev_k, putS_some, upd_l, ops_nil, ops_consg, guard_bool, evC_condC, cond_bool, ops_cons, next_some, then_norm, then_ret, done_ret, putL, getL, Option.bind_some, Option.map_some, evalOp, ↓reduceIte, evalRs, evalR, AV.toV0?, mkRes, V0.toAV, decide_true, lst_get, eq_self, finish_id, Bool.not_false, Bool.true_eq_false, List.map_cons, List.map_nil, List.append_nil, r1, h1]
  by_cases h2 : (4096 : Int) < l'.length
  · rw [ev_call c3]; unfold k3; rw [evB_eq rfl]
    simp (maxSteps := 4000000) (disch := first | omega | (refine _root_.id ?_; simp only [pl_int, pl_bool, pl_str, pl_undef, pl_nil, pl_ptr, plA_c, plA_agg, plA_tup, plV_c, plV_agg, List.all_cons, List.all_nil, Bool.and_true, Bool.and_self, eq_self, vi_int, vi_bool, get_app, get_app0, List.getElem?_cons_zero, List.getElem?_cons_succ, Option.join_some, lst_get, getL, upd_at, upd_ne, Nat.reduceBEq])) only [evC_ret, evC_region, evC_seq, ev_t, ev_k, putS_some, upd_l, ops_nil, ops_consg, guard_bool, evC_condC, cond_bool, ops_cons, next_some, then_norm, then_ret, done_ret, putL, getL, Option.bind_some, Option.map_some, evalOp, ↓reduceIte, evalRs, evalR, AV.toV0?, mkRes, V0.toAV, decide_true, decide_false, lst_get, eq_self, finish_id, Bool.false_eq_true, List.map_cons, List.map_nil, List.append_nil, r1, r2, h1, h2]
  obtain ⟨x, T, x5, okx, hx, e7⟩ := run7 hc hl
  obtain ⟨H1, hH1⟩ : ∃ K, K = H ++ T := ⟨_, rfl⟩
  rw [← hH1] at e7 hx
  have pH1 : Pre H H1 := by rw [hH1]; exact pre_app
  have few := okP_few okx
  have hlx := hfr_len x
  have htx := hfr_t (h := x)
  have hox := hfr_ok (h := x)
  -- the ways
  obtain ⟨K1, hK1⟩ : ∃ K, K = H1 ++ [hfb x] := ⟨_, rfl⟩
  have p1 : Pre H1 K1 := by rw [hK1]; exact pre_app
  have g1 : K1.get H1.length = hfb x := by rw [hK1, get_app0]; rfl
  have tw : twR x.pr = (waysP x.pr, 0) := by unfold twR; rw [if_pos (show okP x.pr = true from okx)]
  obtain ⟨c8, J1, e8, q8, n8⟩ := run8 (hx.pre p1)
  obtain ⟨c9, J2, e9, q9, n9⟩ := run9 (hx.pre (p1.trans q8))
  rw [tw] at e8 n8 e9 n9
  dsimp only at e8 n8 e9 n9
  have wf := ways_few (p := x.pr) few
  have e10 := sameTs (by omega) (n8.at_.pre q9) n9.at_
  have x1 := q8.get g1
  have x2 := q9.get x1
  have lx1 := get_some_lt x1
  have lx2 := get_some_lt x2
  have p12 : Pre H1 J2 := p1.trans (q8.trans q9)
  obtain ⟨t, ok, e11, k1, k2⟩ := run11 (hx.pre p12) okx (hd.gen.pre (pH1.trans p12)) hl'
  obtain ⟨p9, cap9, rfl, _⟩ := n9
  obtain ⟨p8, cap8, rfl, _⟩ := n8
  cases ok
  · have hw := k2 rfl
    have h0 : (waysP x.pr).length = 0 := by rw [hw]; rfl
    have fin : ∀ (T : List (Option Blk)) (v : AV), T = [some ⟨37, trow t, .own⟩] → v.plain = true → finish true H v (J2 ++ T) = some (v, H) := fun T v hT hv => by
      rw [hT]; exact finish_pre ((pH1.trans p12).app _) hv
    rw [h0] at e8 e9 e10
    subst hK1
    obtain ⟨R, hR⟩ : ∃ R, R = hfr x := ⟨_, rfl⟩
    simp only [hfb, ← hR] at e7 hlx htx hox e8 e9 e11 x1 x2
    clear hx hc hd
    rw [ev_call c3]; unfold k3; rw [evB_eq rfl]
    simp (maxSteps := 4000000) (disch := first | omega | (refine _root_.id ?_; simp only [pl_int, pl_bool, pl_str, pl_undef, pl_nil, pl_ptr, plA_c, plA_agg, plA_tup, plV_c, plV_agg, List.all_cons, List.all_nil, Bool.and_true, Bool.and_self, eq_self, vi_int, vi_bool, get_app, get_app0, List.getElem?_cons_zero, List.getElem?_cons_succ, Option.join_some, lst_get, getL, upd_at, upd_ne, Nat.reduceBEq])) only [evC_skip, evC_ret, evC_region, evC_seq, ev_t, ev_k, putS_some, upd_l, putS_none, ops_nil, ops_consg, guard_bool, evC_condC, cond_bool, ops_cons, next_some, then_norm, then_ret, done_ret, putL, getL, Option.bind_some, Option.map_some, evalOp, AV.cells?, readCells, writeCells, get_app0, set_app0, List.getElem?_cons_zero, List.getElem?_cons_succ, Option.join_some, List.length_cons, List.length_nil, List.nil_append, Nat.zero_add, Nat.reduceAdd, List.drop_zero, List.drop_succ_cons, List.take_zero, List.drop_nil, ↓reduceIte, reduceCtorEq, binA, binC, intBin, or_false, or_true, evalRs, evalR, AV.toV0?, mkRes, V0.toAV, decide_false, and_self, lst_get, Int.cast_ofNat_Int, eq_self, List.all_cons, List.all_nil, Bool.and_true, beq_self_eq_true, Bool.not_true, Bool.not_false, Bool.false_eq_true, List.map_cons, List.map_nil, List.append_nil, setAt, CV.ok, bne_self_eq_false, List.set_cons_zero, unA, r1, r2, h1, h2, e7, hlx, htx, hox, Nat.le_refl, e8, e9, e10, x1, x2, e11, fin]
  · obtain ⟨rg, hm⟩ := ways_mem (p := x.pr) few (k1 rfl)
    have th : thR x.pr t = tmR x.pr t := by unfold thR; rw [if_pos (show okP x.pr = true from okx)]
    have hT := tm_isT (show okP x.pr = true from okx) hm
    -- the tampered halves
    obtain ⟨K3, hK3⟩ : ∃ K, K = J2 ++ [some ⟨37, trow t, .own⟩] := ⟨_, rfl⟩
    have p3 : Pre J2 K3 := by rw [hK3]; exact pre_app
    have t3 : K3.get J2.length = some ⟨37, trow t, .own⟩ := by rw [hK3, get_app0]; rfl
    have x3 := p3.get x2
    have p13 := p12.trans p3
    obtain ⟨y, J4, e12, q12, u1, o1⟩ := run12 (hx.pre p13) rg
    rw [th, hm] at e12
    rw [th] at u1
    have x4 := q12.get x3
    have t4 := q12.get t3
    obtain ⟨K4, hK4⟩ : ∃ K, K = J4 ++ [hfb y] := ⟨_, rfl⟩
    have p4 : Pre J4 K4 := by rw [hK4]; exact pre_app
    have y4 : K4.get J4.length = hfb y := by rw [hK4, get_app0]; rfl
    have p14 := p13.trans (q12.trans p4)
    obtain ⟨z, J5, e13, q13, v1, o2⟩ := run13 (hx.pre p14) rg
    rw [th, hm] at e13
    rw [th] at v1
    have x5' := q13.get (p4.get x4)
    have t5 := q13.get (p4.get t4)
    have y5 := q13.get y4
    have lx4 := get_some_lt x4
    have lt4 := get_some_lt t4
    have lx5 := get_some_lt x5'
    have lt5 := get_some_lt t5
    have ly5 := get_some_lt y5
    have p15 := p14.trans q13
    have aA := fun (T : List (Option Blk)) => (hx.pre p15).app T
    have yA := fun (T : List (Option Blk)) => ((o1.at_.pre p4).pre q13).app T
    have zA := fun (T : List (Option Blk)) => o2.at_.app T
    have eyz : y.pr = z.pr := by rw [u1, v1]
    have okz : okF z = true := by rw [show okF z = okP z.pr from rfl, v1]; exact tm_ok hm
    -- what is seen of them
    have gn : gnR x.pr t = (sumN z.xs - sumN x.xs, 0) := by
      have hz : (tmR x.pr t).1.xs = z.xs := by rw [← v1]
      unfold gnR
      rw [th, if_pos hm, hz]
    have sm : sumN x.xs < sumN z.xs := by
      have := tm_more (show okP x.pr = true from okx) hm
      rw [← v1] at this; exact this
    have e14 := fun T => run14 (t := t) (aA T) rg
    simp only [gn] at e14
    have e15x := fun T => v15 (aA T) okx
    have e15z := fun T => v15 (zA T) okz
    obtain ⟨wi1, wi2⟩ := wood_more okx okz hm v1
    obtain ⟨wx, wx1, wx2, wx3, wx4⟩ := words (h := x)
    obtain ⟨wz, wz1, wz2, wz3, wz4⟩ := words (h := z)
    have wlt := count_more okx okz hm v1 wx1 wz1 wx4 wz4
    have e20 := fun T => run20 (wdF_len (h := x)) (wdF_len (h := z)) (J5 ++ T)
    rw [wi1] at e20
    have e21x := fun T => run21 wx1 wx2 (J5 ++ T)
    have e21z := fun T => run21 wz1 wz2 (J5 ++ T)
    rw [← wx3] at e21x
    rw [← wz3] at e21z
    have hcn : ¬ ((wcn wz : Nat) : Int) ≤ ((wcn wx : Nat) : Int) := by omega
    have lwx : (wrow (wdF x)).length = 4 := by rw [List.length_map]; exact wdF_len
    have lwz : (wrow (wdF z)).length = 4 := by rw [List.length_map]; exact wdF_len
    have twx : List.take 4 (wrow (wdF x)) = wrow (wdF x) := List.take_of_length_le (by omega)
    have twz : List.take 4 (wrow (wdF z)) = wrow (wdF z) := List.take_of_length_le (by omega)
    have owx : (wrow (wdF x)).all CV.ok = true := by rw [List.all_map]; exact List.all_eq_true.2 fun _ _ => rfl
    have owz : (wrow (wdF z)).all CV.ok = true := by rw [List.all_map]; exact List.all_eq_true.2 fun _ _ => rfl
    have e17 := fun T => run17 (t := t) (J5 ++ T) rg
    have e16 := fun T => run16 (s := txt t) txt_len (J5 ++ T)
    rw [rd_txt hT] at e16
    dsimp only at e16
    have e18 := fun T => run18s (yA T) (zA T) eyz
    have e19 := fun T => v70 (zA T)
    rw [okz] at e19
    have e22x := fun T => run22 (aA T) okx
    have e22z := fun T => run22 (zA T) okz
    have e23a := fun T => run23 (aA T) (zA T)
    have e23b := fun T => run23 (zA T) (aA T)
    have st : (x.st == z.st) = true ∧ (z.st == x.st) = true := by
      have h1 : z.st = x.st := by
        have : z.pr.st = (tmR x.pr t).1.st := by rw [v1]
        exact this.trans (tm_st hm)
      rw [h1]; exact ⟨beq_self_eq_true _, beq_self_eq_true _⟩
    have cb1 : cbB x z = true ∧ cbC x z = 0 := by unfold cbB cbC; rw [okx, okz, st.1, wi1]; exact ⟨rfl, rfl⟩
    have cb2 : cbB z x = false ∧ cbC z x = 0 := by unfold cbB cbC; rw [okx, okz, st.2, wi2]; exact ⟨rfl, rfl⟩
    rw [cb1.1, cb1.2] at e23a
    rw [cb2.1, cb2.2] at e23b
    -- all of the tampers
    obtain ⟨K9, hK9⟩ : ∃ K, K = J5 ++ [hfb z, some ⟨46, wrow (wdF x), .own⟩, some ⟨46, wrow (wdF z), .own⟩, some ⟨37, trow t, .own⟩, some ⟨37, trow t, .own⟩] := ⟨_, rfl⟩
    have p9' : Pre J5 K9 := by rw [hK9]; exact pre_app
    have z9 : K9.get J5.length = hfb z := by rw [hK9, get_app0]; rfl
    have ts9 : TsAt K9 (.slice (some (J5.length + 4, 0)) 1 (.exact 1)) [t] := ⟨_, _, rfl, fun _ => ⟨J5.length + 4, 37, .own, rfl, by rw [hK9, get_app]; simp [trows]⟩⟩
    obtain ⟨a, J6, e24, q24, w1, o3⟩ := run24 (hx.pre (p15.trans p9')) ts9 (by simp) (by intro u hu; rw [List.mem_singleton.1 hu]; exact rg)
    rw [taR_1 (show okP x.pr = true from okx) hm] at e24 w1
    dsimp only at e24 w1
    have x6 := q24.get (p9'.get x5')
    have z6 := q24.get z9
    have lx6 := get_some_lt x6
    have lz6 := get_some_lt z6
    obtain ⟨K10, hK10⟩ : ∃ K, K = J6 ++ [hfb a] := ⟨_, rfl⟩
    have p10 : Pre J6 K10 := by rw [hK10]; exact pre_app
    have p1A := p15.trans (p9'.trans (q24.trans p10))
    have e18b := run18s (x := a) (y := z) (o3.at_.pre p10) (((o2.at_.pre p9').pre q24).pre p10) (by rw [w1, v1])
    -- chance
    obtain ⟨b, J7, e25, q25, b1, o4⟩ := run25 (s := 9) (hx.pre p1A)
    have x7 := q25.get (p10.get x6)
    have lx7 := get_some_lt x7
    obtain ⟨tc, htc⟩ : ∃ u, u = (ctR x.pr 9).1.2 := ⟨_, rfl⟩
    obtain ⟨sd, hsd⟩ : ∃ u, u = (ctR x.pr 9).2.1 := ⟨_, rfl⟩
    obtain ⟨cd2, hcd⟩ : ∃ u, u = (ctR x.pr 9).2.2 := ⟨_, rfl⟩
    obtain ⟨K11, hK11⟩ : ∃ K, K = J7 ++ [hfb b, some ⟨37, trow tc, .own⟩] := ⟨_, rfl⟩
    have p11 : Pre J7 K11 := by rw [hK11]; exact pre_app
    have b11 : K11.get J7.length = hfb b := by rw [hK11, get_app0]; rfl
    have t11 : K11.get (J7.length + 1) = some ⟨37, trow tc, .own⟩ := by rw [hK11, get_app]; rfl
    have p1B := p1A.trans (q25.trans p11)
    obtain ⟨f, J8, e26, q26, f1, o5⟩ := run26 (s := 9) (hx.pre p1B)
    rw [← htc, ← hsd, ← hcd] at e25 e26
    have b8 := q26.get b11
    have t8 := q26.get t11
    have lb8 := get_some_lt b8
    have lt8 := get_some_lt t8
    have e18c := fun T => run18s (x := b) (y := f) (((o4.at_.pre p11).pre q26).app T) (o5.at_.app T) (by rw [b1, f1])
    have eqt := eq_tms (t := t)
    have eqc := eq_tms (t := tc)
    have pF : Pre H J8 := pH1.trans (p1B.trans q26)
    have fin : ∀ (T : List (Option Blk)) (v : AV), T = [hfb f, some ⟨37, trow tc, .own⟩] → v.plain = true → finish true H v (J8 ++ T) = some (v, H) := fun T v hT hv => by
      rw [hT]; exact finish_pre (pF.app _) hv
    have hly := hfr_len y
    have hty := hfr_t (h := y)
    have hoy := hfr_ok (h := y)
    have hlz := hfr_len z
    have htz := hfr_t (h := z)
    have hoz := hfr_ok (h := z)
    have hla := hfr_len a
    have hta := hfr_t (h := a)
    have hoa := hfr_ok (h := a)
    have hlb := hfr_len b
    have htb := hfr_t (h := b)
    have hob := hfr_ok (h := b)
    have hlf := hfr_len f
    have htf := hfr_t (h := f)
    have hof := hfr_ok (h := f)
    obtain ⟨B1, B2⟩ := sumN_b (xs := x.xs)
    obtain ⟨B3, B4⟩ := sumN_b (xs := z.xs)
    have fewz := okP_few okz
    obtain ⟨A, hA⟩ : ∃ A, A = sumN x.xs := ⟨_, rfl⟩
    obtain ⟨B, hB⟩ : ∃ B, B = sumN z.xs := ⟨_, rfl⟩
    rw [← hA] at sm B1 B2
    rw [← hB] at sm B3 B4
    simp only [← hA, ← hB] at e14 e22x e22z
    have hgt : ¬ B - A ≤ 0 := by omega
    have hsum : (B != A + (B - A)) = false := by
      have : A + (B - A) = B := by omega
      rw [this]; simp
    have bA : 0 ≤ A ∧ A ≤ 14400000 := by omega
    have bB : 0 ≤ B ∧ B ≤ 14400000 := by omega
    clear B2 B4 hx hc hd aA yA zA o1 o2 o3 o4 o5 hA hB gn
    obtain ⟨Wx, hWx⟩ : ∃ W, W = wrow (wdF x) := ⟨_, rfl⟩
    obtain ⟨Wz, hWz⟩ : ∃ W, W = wrow (wdF z) := ⟨_, rfl⟩
    obtain ⟨Rx, hRx⟩ : ∃ R, R = hfr x := ⟨_, rfl⟩
    obtain ⟨Ry, hRy⟩ : ∃ R, R = hfr y := ⟨_, rfl⟩
    obtain ⟨Rz, hRz⟩ : ∃ R, R = hfr z := ⟨_, rfl⟩
    obtain ⟨Ra, hRa⟩ : ∃ R, R = hfr a := ⟨_, rfl⟩
    obtain ⟨Rb, hRb⟩ : ∃ R, R = hfr b := ⟨_, rfl⟩
    obtain ⟨Rf, hRf⟩ : ∃ R, R = hfr f := ⟨_, rfl⟩
    subst hK1; subst hK3; subst hK4; subst hK9; subst hK10; subst hK11
    simp only [hfb, ← hRx, ← hRy, ← hRz, ← hRa, ← hRb, ← hRf, ← hWx, ← hWz] at e7 hlx htx hox e8 e9 e11 x1 x2 e12 e13 x4 y5 x5' hly hty hoy hlz htz hoz hla hta hoa hlb htb hob hlf htf hof e14 e15x e15z e20 e21x e21z lwx lwz twx twz owx owz e18 e19 e22x e22z e23a e23b e24 x6 z6 e18b e25 x7 e26 b8 e18c fin
    rw [ev_call c3]; unfold k3; rw [evB_eq rfl]
    simp (maxSteps := 4000000) (disch := first | omega | (refine _root_.id ?_; simp only [pl_int, pl_bool, pl_str, pl_undef, pl_nil, pl_ptr, plA_c, plA_agg, plA_tup, plV_c, plV_agg, List.all_cons, List.all_nil, Bool.and_true, Bool.and_self, eq_self, vi_int, vi_bool, get_app, get_app0, List.getElem?_cons_zero, List.getElem?_cons_succ, Option.join_some, lst_get, getL, upd_at, upd_ne, Nat.reduceBEq])) only [evC_skip, evC_ret, evC_region, evC_seq, ev_t, ev_k, putS_some, upd_l, putS_none, ops_nil, ops_consg, guard_bool, evC_condC, cond_bool, ops_cons, next_some, nextD_some, then_norm, done_ret, putL, getL, Option.bind_some, Option.map_some, evalOp, AV.cells?, readCells, writeCells, get_app, get_app0, set_app, set_app0, len_app, List.getElem?_cons_zero, List.getElem?_cons_succ, Option.join_some, List.length_cons, List.length_nil, List.append_assoc, List.cons_append, List.nil_append, Nat.zero_add, Nat.reduceAdd, List.drop_zero, List.drop_succ_cons, List.take_zero, List.take_succ_cons, List.take_nil, List.drop_nil, ↓reduceIte, reduceCtorEq, binA, binC, intBin, or_false, or_true, evalRs, evalR, AV.toV0?, mkRes, V0.toAV, decide_false, and_self, lst_get, eq_self, IntWalk.i64_in, List.all_cons, List.all_nil, Bool.and_true, beq_self_eq_true, Bool.not_true, Bool.false_eq_true, List.map_cons, List.map_nil, List.append_nil, setAt, CV.ok, eqRes, bne_self_eq_false, List.set_cons_zero, List.set_cons_succ, evC_drawn, dr_nil, dr_cons, chk_nil, re_same, unA, partsA, fillC, chkg_bool, chk_consg, r1, r2, h1, h2, e7, hlx, htx, hox, Nat.le_refl, e8, e9, e10, get_appl lx2, x1, x2, e11, e12, get_appl lx4, get_appl lt4, x4, t4, e13, hly, hty, hoy, get_appl lx5, get_appl lt5, get_appl ly5, x5', t5, y5, hlz, htz, hoz, e14, e15x, e15z, lwx, lwz, twx, twz, owx, owz, e17, e16, e18, e19, hgt, e20, e21x, e21z, hcn, eqt, e22x, e22z, e23a, e23b, e24, get_appl lx6, get_appl lz6, x6, z6, hla, hta, hoa, hsum, e18b, e25, get_appl lx7, x7, hlb, htb, hob, e26, get_appl lb8, get_appl lt8, b8, t8, hlf, htf, hof, e18c, eqc, beq_self_eq_true, fin]
end Go.Proofs.YtcfabmmonoljeaaDoor

/- What functions of the program answer: part W5. -/
set_option linter.unusedVariables false
set_option linter.unusedSimpArgs false
set_option linter.unusedSectionVars false
namespace Go.Proofs.YtcfabmmonoljeaaDoor
open Go Go.Proofs.YtcfabmmonoljeaaDoor.VI
theorem law3 (H : AHeap) (vs : List AV) (h : ArgsOk H [.sl 1 1 (.int .u8), .sl 1 1 (.int .u8)] vs) : ∃ H', ev kk 3 vs H = some (.c (.bool true), H') := by
  obtain ⟨a, vs0, rfl, h1, h2⟩ := h.cons_inv
  obtain ⟨a', vs1, rfl, h3, h4⟩ := h2.cons_inv
  obtain rfl := h4.nil_inv
  obtain ⟨c, elems, rfl, h5, h6, _⟩ := h1.sl_inv
  obtain ⟨c', elems', rfl, h7, h8, _⟩ := h3.sl_inv
  obtain ⟨l, hb, hl⟩ := bts_inv h5 h6
  obtain ⟨l', hb', hl'⟩ := bts_inv h7 h8
  exact ⟨H, run3 hb hl hb' hl'⟩
end Go.Proofs.YtcfabmmonoljeaaDoor
