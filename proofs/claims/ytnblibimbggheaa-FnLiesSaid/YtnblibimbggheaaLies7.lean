/- What functions of the program answer: part Lies7. -/
import Derived.Test.YtnblibimbggheaaLies6
import Derived.Test.YtnblibimbggheaaFew2
set_option linter.unusedVariables false
set_option linter.unusedSimpArgs false
set_option linter.unusedSectionVars false
namespace Go.Proofs.Ytnblibimbggheaa
open Go Go.Proofs.Ytnblibimbggheaa.VI
set_option maxHeartbeats 16000000
set_option maxRecDepth 20000
theorem two_facts {s f : Hf} (os : okF s = true) (of_ : okF f = true) (ss : s.st = true) (fs : f.st = false) (fx : f.xs = s.xs) (fg : f.g = opp s.g) : pcR s [f] = 0 ∧ whL s f = 0 ∧ suA s f = sumN s.xs ∧ suC s f = 0 ∧ inC s f 0 = 0 ∧ inV s f 0 = [.bool true, .int .i8 0, .int .i64 (sumN s.xs), .int .i64 (sumN s.xs)] ∧ inW s f 0 = [] := by
  have gs : s.g.all gq = true := (okH_p os).2.2
  have p1 : pcR s [f] = 0 := by unfold pcR foil; simp [os, of_, ss, fs]
  have l1 : liR s f = 0 := by unfold liR; rw [fx, eqN_self]; rfl
  have t1 : ftB s f 0 = true := by
    unfold ftB fgB
    rw [fx, eqN_self, fg, fo_opp gs, wr_opp gs]; rfl
  have i1 : inC s f 0 = 0 := by unfold inC; rw [p1]; rfl
  refine ⟨p1, ?_, ?_, ?_, i1, ?_, ?_⟩
  · unfold whL; rw [if_pos p1, l1]
  · unfold suA; rw [if_pos p1, l1]; rfl
  · unfold suC; rw [if_pos p1, l1]; rfl
  · unfold inV; rw [if_pos i1, t1, l1, fx]; rfl
  · unfold inW; rw [if_pos i1, fg, wr_opp gs]
theorem hfs_two {H : AHeap} {j : Nat} {x y : Hf} {m : BM} (hj : H.get j = some ⟨36, hfr x ++ hfr y, m⟩) : Hfs H (some (j, 0)) [x, y] := fun _ => ⟨j, 36, m, rfl, by rw [hj]; simp [hrows]⟩
theorem run5 {c d : CV} {l l' : List Int} {H : AHeap} (hc : Bts H c l) (hl : ∀ x ∈ l, 0 ≤ x ∧ x ≤ 255) (hd : Bts H d l') (hl' : ∀ x ∈ l', 0 ≤ x ∧ x ≤ 255) : ev kk 5 [.c c, .c d] H = some (.c (.bool true), H) := by
  obtain ⟨pc, cc, ec⟩ := hc.shape
  obtain ⟨pd, cd, ed⟩ := hd.shape
  have r1 := run21 (H := H) (p := pc) (n := l.length) (c := cc)
  have r2 := run21 (H := H) (p := pd) (n := l'.length) (c := cd)
  rw [← ec] at r1
  rw [← ed] at r2
  by_cases h1 : (4096 : Int) < l.length
  · rw [ev_call c5]; unfold k5; rw [evB_eq rfl]
    simp (maxSteps := 4000000) (disch := first | omega | (refine _root_.id ?_; simp only [pl_int, pl_bool, pl_str, pl_undef, pl_nil, pl_ptr, plA_c, plA_agg, plA_tup, plV_c, plV_agg, List.all_cons, List.all_nil, Bool.and_true, Bool.and_self, eq_self, vi_int, vi_bool, get_app, get_app0, List.getElem?_cons_zero, List.getElem?_cons_succ, Option.join_some, lst_get, getL, upd_at, upd_ne, Nat.reduceBEq])) only [evC_ret, evC_region, evC_seq, ev_t, ev_k, putS_some, upd_l, ops_nil, ops_consg, guard_bool, evC_condC, cond_bool, ops_cons, next_some, then_norm, then_ret, done_ret, putL, getL, Option.bind_some, Option.map_some, evalOp, ↓reduceIte, evalRs, evalR, AV.toV0?, mkRes, V0.toAV, decide_true, lst_get, eq_self, finish_id, Bool.not_false, Bool.true_eq_false, List.map_cons, List.map_nil, List.append_nil, r1, h1]
  by_cases h2 : (4096 : Int) < l'.length
  · rw [ev_call c5]; unfold k5; rw [evB_eq rfl]
    simp (maxSteps := 4000000) (disch := first | omega | (refine _root_.id ?_; simp only [pl_int, pl_bool, pl_str, pl_undef, pl_nil, pl_ptr, plA_c, plA_agg, plA_tup, plV_c, plV_agg, List.all_cons, List.all_nil, Bool.and_true, Bool.and_self, eq_self, vi_int, vi_bool, get_app, get_app0, List.getElem?_cons_zero, List.getElem?_cons_succ, Option.join_some, lst_get, getL, upd_at, upd_ne, Nat.reduceBEq])) only [evC_ret, evC_region, evC_seq, ev_t, ev_k, putS_some, upd_l, ops_nil, ops_consg, guard_bool, evC_condC, cond_bool, ops_cons, next_some, then_norm, then_ret, done_ret, putL, getL, Option.bind_some, Option.map_some, evalOp, ↓reduceIte, evalRs, evalR, AV.toV0?, mkRes, V0.toAV, decide_true, decide_false, lst_get, eq_self, finish_id, Bool.false_eq_true, List.map_cons, List.map_nil, List.append_nil, r1, r2, h1, h2]
  obtain ⟨x, T, x5, okx, hx, e22⟩ := run22 hc hl
  obtain ⟨H1, hH1⟩ : ∃ K, K = H ++ T := ⟨_, rfl⟩
  rw [← hH1] at e22 hx
  have pH1 : Pre H H1 := by rw [hH1]; exact pre_app
  have hgq : x.g.all gq = true := (okH_p okx).2.2
  obtain ⟨s, hs⟩ : ∃ s : Hf, s = ⟨true, x.p, x.cap, x.xs, x.g, x.g16⟩ := ⟨_, rfl⟩
  obtain ⟨f, hf⟩ : ∃ f : Hf, f = ⟨false, x.p, x.cap, x.xs, opp x.g, by rw [opp_len]; exact x.g16⟩ := ⟨_, rfl⟩
  have oks : okF s = true := by rw [hs]; exact okx
  have okf : okF f = true := by
    rw [hf]
    show okH x.xs (opp x.g) = true
    rw [okH_g hgq (opp_ok hgq)]; exact okx
  have hsA : HfAt H1 s := by rw [hs]; exact ⟨hx.few, hx.rng, hx.at_⟩
  have hfA : HfAt H1 f := by rw [hf]; exact ⟨hx.few, hx.rng, hx.at_⟩
  have r23 := fun K => run23 x.g16 hgq K
  -- rows
  have hl0 := hfr_len x
  have ht0 := hfr_t (h := x)
  have ho0 := hfr_ok (h := x)
  have hls := hfr_len s
  have hts := hfr_t (h := s)
  have hos := hfr_ok (h := s)
  have hlf := hfr_len f
  have htf := hfr_t (h := f)
  have hof := hfr_ok (h := f)
  obtain ⟨f0, hf0⟩ : ∃ f : Hf, f = ⟨false, x.p, x.cap, x.xs, x.g, x.g16⟩ := ⟨_, rfl⟩
  have hl00 := hfr_len f0
  have w1 : CV.bool true :: List.drop 1 (hfr x) = hfr s := by rw [hs]; rfl
  have w2 : CV.bool false :: List.drop 1 (hfr s) = hfr f0 := by rw [hs, hf0]; rfl
  have w3 : List.take 16 (List.drop 2 (hfr s)) = grow x.g := by rw [hs]; exact gt (h := x)
  have w4 : List.take 2 (hfr f0) ++ (grow (opp x.g) ++ List.drop 18 (hfr f0)) = hfr f := by
    have : List.drop 18 (hfr f0) = [] := List.drop_eq_nil_of_le (by rw [hl00]; exact Nat.le_refl _)
    rw [this, List.append_nil, hf0, hf]; rfl
  have gol : (grow (opp x.g)).length = 16 := by rw [List.length_map, opp_len]; exact x.g16
  have got : List.take 16 (grow (opp x.g)) = grow (opp x.g) := List.take_of_length_le (by omega)
  -- the heaps
  obtain ⟨K0, hK0⟩ : ∃ K, K = H1 ++ [hfb s, hfb f, some ⟨34, grow (opp x.g), .own⟩] := ⟨_, rfl⟩
  have p0 : Pre H1 K0 := by rw [hK0]; exact pre_app
  have s0 : K0.get H1.length = hfb s := by rw [hK0, get_app0]; rfl
  have f0' : K0.get (H1.length + 1) = hfb f := by rw [hK0, get_app]; rfl
  have e24 := run24 (hsA.pre p0) oks
  have e25 := run25 (hsA.pre p0) (hfA.pre p0)
  have e26 := run26 (hsA.pre p0) (hfA.pre p0)
  obtain ⟨T1, c1, e27, y1⟩ := run27 (w := 0) (hsA.pre p0) (hfA.pre p0)
  obtain ⟨pw, cpw, rfl, nw⟩ := y1.nums
  obtain ⟨J, hJ⟩ : ∃ J, J = K0 ++ T1 := ⟨_, rfl⟩
  rw [← hJ] at e27 nw
  have pJ : Pre K0 J := by rw [hJ]; exact pre_app
  have sJ := pJ.get s0
  have fJ := pJ.get f0'
  have lsJ := get_some_lt sJ
  have lfJ := get_some_lt fJ
  obtain ⟨q1, q2, q3, q4, q5, q6, q7⟩ := two_facts oks okf (by rw [hs]) (by rw [hf]) (by rw [hs, hf]) (by rw [hs, hf])
  rw [q1, q2] at e25
  rw [q3, q4] at e26
  rw [q5, q6] at e27
  rw [q7] at e27 nw
  simp only [List.length_nil, List.cons_append, List.nil_append] at e27
  obtain ⟨V, hV⟩ : ∃ V : List CV, V = [.bool true, .int .i8 0, .int .i64 (sumN s.xs), .int .i64 (sumN s.xs), .slice pw 0 cpw] := ⟨_, rfl⟩
  have pV : Pre K0 (J ++ [some ⟨54, V, .own⟩]) := pJ.trans pre_app
  obtain ⟨t, ok, e28, k1, _⟩ := run28 (hsA.pre (p0.trans pV)) oks (hd.gen.pre (pH1.trans (p0.trans pV))) hl'
  have pHV : Pre H (J ++ [some ⟨54, V, .own⟩]) := pH1.trans (p0.trans pV)
  have sJ' := sJ
  have nn : ((sumN s.xs) != (sumN s.xs)) = false := by simp
  subst hK0
  cases ok
  · have fin : ∀ (T : List (Option Blk)) (v : AV), T = [some ⟨54, V, .own⟩, some ⟨38, trow t, .own⟩] → v.plain = true → finish true H v (J ++ T) = some (v, H) := fun T v hT hv => by
      rw [hT]; exact finish_pre ((pH1.trans (p0.trans pJ)).app _) hv
    obtain ⟨R, hR⟩ : ∃ R, R = hfr x := ⟨_, rfl⟩
    obtain ⟨Rs, hRs⟩ : ∃ R, R = hfr s := ⟨_, rfl⟩
    obtain ⟨Rf, hRf⟩ : ∃ R, R = hfr f := ⟨_, rfl⟩
    obtain ⟨R0, hR0⟩ : ∃ R, R = hfr f0 := ⟨_, rfl⟩
    rw [hV] at e28 fin
    simp only [hfb, ← hR, ← hRs, ← hRf, ← hR0] at e22 hl0 ht0 ho0 hls hts hos hlf htf hof hl00 w1 w2 w3 w4 e24 e25 e26 e27 e28 sJ fJ
    rw [ev_call c5]; unfold k5; rw [evB_eq rfl]
    simp (maxSteps := 4000000) (disch := first | omega | (refine _root_.id ?_; simp only [pl_int, pl_bool, pl_str, pl_undef, pl_nil, pl_ptr, plA_c, plA_agg, plA_tup, plV_c, plV_agg, List.all_cons, List.all_nil, Bool.and_true, Bool.and_self, eq_self, vi_int, vi_bool, get_app, get_app0, List.getElem?_cons_zero, List.getElem?_cons_succ, Option.join_some, lst_get, getL, upd_at, upd_ne, Nat.reduceBEq])) only [evC_skip, evC_ret, evC_region, evC_seq, ev_t, ev_k, putS_some, upd_l, putS_none, ops_nil, ops_consg, guard_bool, evC_condC, cond_bool, ops_cons, next_some, then_norm, then_ret, done_ret, putL, getL, Option.bind_some, Option.map_some, evalOp, AV.cells?, readCells, readCell, writeCells, get_app, get_app0, set_app, set_app0, len_app, List.getElem?_cons_zero, List.getElem?_cons_succ, Option.join_some, List.length_cons, List.length_nil, List.append_assoc, List.cons_append, List.nil_append, Nat.zero_add, Nat.add_zero, Nat.reduceAdd, Nat.reduceLeDiff, List.drop_zero, List.drop_succ_cons, List.take_zero, List.drop_nil, ↓reduceIte, reduceCtorEq, binA, binC, intBin, or_false, or_true, evalRs, evalR, AV.toV0?, mkRes, V0.toAV, decide_false, and_self, lst_get, Int.cast_ofNat_Int, eq_self, List.all_cons, List.all_nil, Bool.and_true, Bool.not_true, Bool.not_false, Bool.false_eq_true, List.map_cons, List.map_nil, List.append_nil, setAt, CV.ok, bne_self_eq_false, List.set_cons_zero, List.set_cons_succ, unA, r1, r2, h1, h2, e22, hl0, ho0, Nat.le_refl, w1, hls, hts, hos, w2, w3, r23, gol, got, hl00, w4, grow_ok, e24, hlf, htf, e25, e26, e27, get_appl lsJ, sJ, e28, fin]
  · have htm := ways_mem (p := s.pr) (okP_few oks) (k1 rfl)
    have hsg : s.pr = ⟨true, x.xs, x.g⟩ := by rw [hs]
    have hfg : f.pr = ⟨false, x.xs, opp x.g⟩ := by rw [hf]
    have tw := tm_twin (st := true) (st' := false) (xs := x.xs) hgq (opp_ok hgq) (t := t) (by rw [← hsg]; exact htm.2)
    rw [← hsg, ← hfg] at tw
    obtain ⟨tw1, tw2, tw3⟩ := tw
    have ths : thR s.pr t = tmR s.pr t := by unfold thR; rw [if_pos (show okP s.pr = true from oks)]
    have thf : thR f.pr t = tmR f.pr t := by unfold thR; rw [if_pos (show okP f.pr = true from okf)]
    -- the tampered ones
    obtain ⟨K2, hK2⟩ : ∃ K, K = J ++ [some ⟨54, V, .own⟩, some ⟨38, trow t, .own⟩] := ⟨_, rfl⟩
    have p2 : Pre J K2 := by rw [hK2]; exact pre_app
    have p02 := pJ.trans p2
    obtain ⟨s2, J2, e17, z2, u1, u2⟩ := run17 (hsA.pre (p0.trans p02)) htm.1
    rw [ths] at e17 u1
    rw [htm.2] at e17
    obtain ⟨K3, hK3⟩ : ∃ K, K = J2 ++ [hfb s2] := ⟨_, rfl⟩
    have p3 : Pre J2 K3 := by rw [hK3]; exact pre_app
    have g3 : K3.get J2.length = hfb s2 := by rw [hK3, get_app0]; rfl
    have p23 : Pre K2 K3 := z2.trans p3
    obtain ⟨f2, J3, e17', z3, v1, v2⟩ := run17 (hfA.pre (p0.trans (p02.trans p23))) htm.1
    rw [thf, tw3] at e17' v1
    dsimp only at e17' v1
    obtain ⟨K4, hK4⟩ : ∃ K, K = J3 ++ [hfb f2] := ⟨_, rfl⟩
    have p4 : Pre J3 K4 := by rw [hK4]; exact pre_app
    have g4 : K4.get J3.length = hfb f2 := by rw [hK4, get_app0]; rfl
    have p34 : Pre K3 K4 := z3.trans p4
    have ok2 : okF s2 = true := by rw [show okF s2 = okP s2.pr from rfl, u1]; exact tm_ok htm.2
    have okf2 : okF f2 = true := by
      rw [show okF f2 = okP f2.pr from rfl, v1]
      show okH (tmR s.pr t).1.xs (opp x.g) = true
      rw [okH_g hgq (opp_ok hgq)]
      have := tm_ok htm.2
      unfold okP at this; rw [tw2] at this; exact this
    have fam : Fam s f s2 f2 t := ⟨oks, okf, ok2, okf2, by rw [hs], by rw [hf], (congrArg Pr.st u1).trans tw1, congrArg Pr.st v1, by rw [hs, hf], by rw [hs, hf], congrArg Pr.xs u1, congrArg Pr.xs v1, htm.2⟩
    obtain ⟨pc1, pc2, pc3, pc4⟩ := fam.pc
    obtain ⟨wh1, wh2, wh3⟩ := fam.wh
    obtain ⟨su0, su1, _, su2, su3, _, su5, su6⟩ := fam.su
    obtain ⟨in1, in2⟩ := fam.inS2
    have a2 : HfAt K4 s2 := u2.at_.pre (p3.trans p34)
    have b2 : HfAt K4 f2 := v2.at_.pre p4
    have p04 : Pre (H1 ++ [hfb s, hfb f, some ⟨34, grow (opp x.g), .own⟩]) K4 := p02.trans (p23.trans p34)
    have asA := hsA.pre (p0.trans p04)
    have af := hfA.pre (p0.trans p04)
    have e25a := run25 a2 af
    rw [wh2, pc2] at e25a
    have e25b := run25 asA b2
    rw [wh3, pc3] at e25b
    have e26a := run26 a2 af
    rw [su2, su5] at e26a
    have e26b := run26 asA b2
    rw [su3, su6] at e26b
    -- what is seen of them
    obtain ⟨T3, c3, e27', y3⟩ := run27 (w := 16) a2 af
    obtain ⟨p31, cp31, rfl, nw3⟩ := y3.nums
    obtain ⟨J4, hJ4⟩ : ∃ J, J = K4 ++ T3 := ⟨_, rfl⟩
    rw [← hJ4] at e27' nw3
    have p5 : Pre K4 J4 := by rw [hJ4]; exact pre_app
    rw [in1, in2] at e27'
    have wl : (inW s2 f 16).length ≤ 4398046511104 := by
      have := wr_len (g := s2.g) (f := f.g) (i := 0) (n := 16)
      unfold inW
      rw [in1, if_pos rfl]; omega
    obtain ⟨V3, hV3⟩ : ∃ V : List CV, V = [.bool false, .int .i8 1, .int .i64 (sumN s2.xs), .int .i64 (sumN s.xs), .slice p31 (inW s2 f 16).length cp31] := ⟨_, rfl⟩
    obtain ⟨T4, c4, e29, y4⟩ := run29 (w := 16) (a2.pre (p5.trans (pre_app (t := [some ⟨54, V3, .own⟩])))) (af.pre (p5.trans (pre_app (t := [some ⟨54, V3, .own⟩]))))
    obtain ⟨p33, cp33, rfl, nw4⟩ := y4.nums
    obtain ⟨J5, hJ5⟩ : ∃ J, J = J4 ++ [some ⟨54, V3, .own⟩] ++ T4 := ⟨_, rfl⟩
    rw [← hJ5] at e29 nw4
    have p6 : Pre J4 J5 := by rw [hJ5]; exact pre_app.trans pre_app
    have p6' : Pre (J4 ++ [some ⟨54, V3, .own⟩]) J5 := by rw [hJ5]; exact pre_app
    rw [in1, in2] at e29
    simp only [List.cons_append, List.nil_append] at e27' e29
    have nw3' : Nums J5 p31 (inW s2 f 16) := by obtain ⟨T, rfl⟩ := p6; exact nw3.app T
    generalize inW s2 f 16 = ws2 at *
    obtain ⟨V4, hV4⟩ : ∃ V : List CV, V = [.bool false, .int .i8 1, .int .i64 (sumN s2.xs), .int .i64 (sumN s.xs), .slice p33 ws2.length cp33] := ⟨_, rfl⟩
    have e30 := run30 (cap := cp31) (cap' := cp33) (b := false) (l := 1) (s1 := sumN s2.xs) (s2 := sumN s.xs) wl (nw3'.app [some ⟨54, V4, .own⟩]) (nw4.app [some ⟨54, V4, .own⟩])
    have e31 := run31 (cap := cp31) (cap' := cp33) (b := false) (l := 1) (s1 := sumN s2.xs) (s2 := sumN s.xs) wl (nw3'.app [some ⟨54, V4, .own⟩]) (nw4.app [some ⟨54, V4, .own⟩])
    -- finding and choosing
    obtain ⟨B, hB⟩ : ∃ B : Option Blk, B = some ⟨36, hfr f2 ++ hfr f, .own⟩ := ⟨_, rfl⟩
    have p45 : Pre K4 J5 := p5.trans p6
    have hin : ∀ (L : List (Option Blk)) (h : Hf), h ∈ [f2, f] → HfAt (J5 ++ L) h := fun L h hh => by
      rcases List.mem_cons.1 hh with rfl | hh
      · exact (b2.pre p45).pre pre_app
      · rw [List.mem_singleton.1 hh]; exact (af.pre p45).pre pre_app
    have e32 := run32 (w := 0) (p := some (J5.length + 1, 0)) (cap := .exact 2) (hs := [f2, f]) (by simp) (H := J5 ++ [some ⟨54, V4, .own⟩, B]) ((asA.pre p45).pre pre_app) (hfs_two (m := .own) (by rw [get_app, hB]; rfl)) (hin _)
    have e33 := run33 (p := some (J5.length + 2, 0)) (cap := .exact 2) (hs := [f2, f]) (by simp) (H := J5 ++ [some ⟨54, V4, .own⟩, B, B]) ((asA.pre p45).pre pre_app) (hfs_two (m := .own) (by rw [get_app, hB]; rfl)) (hin _)
    rw [fam.fd] at e32
    rw [fam.nr] at e33
    simp only [List.length_cons, List.length_nil, Nat.zero_add, Nat.reduceAdd] at e32 e33
    -- what lies where
    have s2g := p2.get sJ
    have f2g := p2.get fJ
    have s3 := z2.get s2g
    have f3 := z2.get f2g
    have t3 := z2.get (show K2.get (J.length + 1) = some ⟨38, trow t, .own⟩ by rw [hK2, get_app]; rfl)
    have s4 := z3.get (p3.get s3)
    have f4 := z3.get (p3.get f3)
    have w4' := z3.get g3
    have ls3 := get_some_lt s3
    have lf3 := get_some_lt f3
    have lt3 := get_some_lt t3
    have ls4 := get_some_lt s4
    have lf4 := get_some_lt f4
    have lw4 := get_some_lt w4'
    have s5 := p5.get (p4.get s4)
    have f5 := p5.get (p4.get f4)
    have w5 := p5.get (p4.get w4')
    have v5 := p5.get g4
    have ls5 := get_some_lt s5
    have lf5 := get_some_lt f5
    have lw5 := get_some_lt w5
    have lv5 := get_some_lt v5
    have s6 := p6.get s5
    have f6 := p6.get f5
    have w6 := p6.get w5
    have v6 := p6.get v5
    have d6 := p6'.get (show AHeap.get (J4 ++ [some ⟨54, V3, .own⟩]) J4.length = some ⟨54, V3, .own⟩ by rw [get_app0]; rfl)
    have ls6 := get_some_lt s6
    have lf6 := get_some_lt f6
    have lw6 := get_some_lt w6
    have lv6 := get_some_lt v6
    have ld6 := get_some_lt d6
    have pF : Pre H J5 := pH1.trans (p0.trans (p04.trans p45))
    have fin : ∀ (T : List (Option Blk)) (v : AV), T = [some ⟨54, V4, .own⟩, B, B] → v.plain = true → finish true H v (J5 ++ T) = some (v, H) := fun T v hT hv => by
      rw [hT]; exact finish_pre (pF.app _) hv
    have hl2 := hfr_len s2
    have ht2 := hfr_t (h := s2)
    have ho2 := hfr_ok (h := s2)
    have hl3 := hfr_len f2
    have ht3 := hfr_t (h := f2)
    have ho3 := hfr_ok (h := f2)
    have hb1 : (hfr f2 ++ zrow).length = 36 := by rw [List.length_append, hl3]; rfl
    have hb2 : List.take 18 (hfr f2 ++ zrow) = hfr f2 := by rw [← hl3, List.take_left]
    have hb3 : List.drop 36 (hfr f2 ++ zrow) = [] := List.drop_eq_nil_of_le (by rw [hb1]; exact Nat.le_refl _)
    have ngt : ¬ sumN s2.xs ≤ sumN s.xs := by omega
    clear a2 b2 asA af hin y1 y3 y4 nw nw3 nw4 nw3' u1 u2 v1 v2 fam tw3
    subst hK2; subst hK3; subst hK4
    obtain ⟨R, hR⟩ : ∃ R, R = hfr x := ⟨_, rfl⟩
    obtain ⟨Rs, hRs⟩ : ∃ R, R = hfr s := ⟨_, rfl⟩
    obtain ⟨Rf, hRf⟩ : ∃ R, R = hfr f := ⟨_, rfl⟩
    obtain ⟨R0, hR0⟩ : ∃ R, R = hfr f0 := ⟨_, rfl⟩
    obtain ⟨R2, hR2⟩ : ∃ R, R = hfr s2 := ⟨_, rfl⟩
    obtain ⟨R3, hR3⟩ : ∃ R, R = hfr f2 := ⟨_, rfl⟩
    subst hB; subst hV; subst hV3; subst hV4
    simp only [hfb, ← hR, ← hRs, ← hRf, ← hR0, ← hR2, ← hR3] at e22 hl0 ht0 ho0 hls hts hos hlf htf hof hl00 w1 w2 w3 w4 e24 e25 e26 e27 e28 sJ fJ e17 e17' e25a e25b e26a e26b e27' e29 e32 e33 s3 f3 s4 f4 w4' s5 f5 w5 v5 s6 f6 w6 v6 hl2 ht2 ho2 hl3 ht3 ho3 hb1 hb2 hb3 fin
    rw [ev_call c5]; unfold k5; rw [evB_eq rfl]
    simp (maxSteps := 4000000) (disch := first | omega | (refine _root_.id ?_; simp only [pl_int, pl_bool, pl_str, pl_undef, pl_nil, pl_ptr, plA_c, plA_agg, plA_tup, plV_c, plV_agg, List.all_cons, List.all_nil, Bool.and_true, Bool.and_self, eq_self, vi_int, vi_bool, get_app, get_app0, List.getElem?_cons_zero, List.getElem?_cons_succ, Option.join_some, lst_get, getL, upd_at, upd_ne, Nat.reduceBEq])) only [evC_skip, evC_ret, evC_region, evC_seq, ev_t, ev_k, putS_some, upd_l, putS_none, ops_nil, ops_consg, guard_bool, evC_condC, cond_bool, ops_cons, next_some, then_norm, done_ret, putL, getL, Option.bind_some, Option.map_some, evalOp, AV.cells?, readCells, readCell, writeCells, get_app, get_app0, set_app, set_app0, len_app, List.getElem?_cons_zero, List.getElem?_cons_succ, Option.join_some, List.length_cons, List.length_nil, List.append_assoc, List.cons_append, List.nil_append, Nat.zero_add, Nat.add_zero, Nat.reduceAdd, Nat.reduceLeDiff, List.drop_zero, List.drop_succ_cons, List.take_zero, List.take_succ_cons, List.take_nil, List.drop_nil, ↓reduceIte, reduceCtorEq, binA, binC, intBin, or_false, or_true, evalRs, evalR, AV.toV0?, mkRes, V0.toAV, decide_false, and_self, lst_get, Int.cast_ofNat_Int, eq_self, List.all_cons, List.all_nil, Bool.and_true, beq_self_eq_true, Bool.not_true, Bool.false_eq_true, List.map_cons, List.map_nil, List.append_nil, setAt, CV.ok, bne_self_eq_false, List.set_cons_zero, List.set_cons_succ, unA, partsA, fillC, r1, r2, h1, h2, e22, hl0, ho0, Nat.le_refl, w1, hls, hts, hos, w2, w3, r23, gol, got, hl00, w4, grow_ok, e24, hlf, htf, e25, e26, e27, get_appl lsJ, sJ, e28, e17, hl2, ht2, ho2, get_appl lf3, get_appl lt3, f3, t3, e17', hl3, ht3, ho3, get_appl ls4, get_appl lf4, get_appl lw4, s4, f4, w4', e25a, e25b, e26a, e26b, e27', get_appl lf5, get_appl lw5, f5, w5, e29, get_appl ls6, get_appl lf6, get_appl lv6, get_appl ld6, s6, f6, v6, d6, e30, e31, ngt, hb1, hb2, hb3, e32, e33, fin]
theorem law5 (H : AHeap) (vs : List AV) (h : ArgsOk H [.sl 1 1 (.int .u8), .sl 1 1 (.int .u8)] vs) : ∃ H', ev kk 5 vs H = some (.c (.bool true), H') := by
  obtain ⟨a, vs0, rfl, h1, h2⟩ := h.cons_inv
  obtain ⟨a', vs1, rfl, h3, h4⟩ := h2.cons_inv
  obtain rfl := h4.nil_inv
  obtain ⟨c, elems, rfl, h5, h6, _⟩ := h1.sl_inv
  obtain ⟨c', elems', rfl, h7, h8, _⟩ := h3.sl_inv
  obtain ⟨l, hb, hl⟩ := bts_inv h5 h6
  obtain ⟨l', hb', hl'⟩ := bts_inv h7 h8
  exact ⟨H, run5 hb hl hb' hl'⟩
end Go.Proofs.Ytnblibimbggheaa
