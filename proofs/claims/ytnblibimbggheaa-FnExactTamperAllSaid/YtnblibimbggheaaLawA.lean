/- What functions of the program answer: part LawA. -/
import Derived.Test.YtnblibimbggheaaAll2
import Derived.Test.YtnblibimbggheaaLawT
import Derived.Test.YtnblibimbggheaaLawG
set_option linter.unusedVariables false
set_option linter.unusedSimpArgs false
set_option linter.unusedSectionVars false
namespace Go.Proofs.Ytnblibimbggheaa
open Go Go.Proofs.Ytnblibimbggheaa.VI
set_option maxHeartbeats 16000000
set_option maxRecDepth 20000
theorem HfNw.turn {G J K : AHeap} {y : Hf} (h : HfNw G J y) (q : ∀ i b, J.get i = some b → G.length ≤ i → K.get i = some b) : HfNw G K y := ⟨h.few, h.rng, fun h0 => by
  obtain ⟨id, m, h1, h2, h3, h4⟩ := h.new h0
  exact ⟨id, m, h1, h2, q id _ h3 h2, h4⟩⟩
theorem ta_few {p : Pr} {ts : List Tm} : (taR p ts).1.1.xs.length ≤ 60 := by
  have key : ∀ (ts : List Tm) (p : Pr), p.xs.length ≤ 60 → (taF p ts).1.xs.length ≤ 60 := by
    intro ts
    induction ts with
    | nil => intro p h; exact h
    | cons t ts ih =>
      intro p h
      unfold taF
      split
      · exact ih _ tm_few
      · simp [zPr]
  unfold taR
  split
  · rename_i h
    split
    · simp [zPr]
    · split
      · exact key _ _ (okH_p h).1
      · simp [zPr]
  · simp [zPr]
theorem run7 {x : Hf} {c : CV} {ts : List Tm} {p : Option (Nat × Nat)} {cap : Cap} {H : AHeap} (hx : HfIn H x) (hc : c = .slice p ts.length cap) (hp : Tts H p ts) (hrt : ∀ t ∈ ts, rngT t) (tlen : ts.length ≤ 1152921504606846976) : ev kk 7 [.agg (hfr x), .c c] H = some (.c (.bool true), H) := by
  have r11 := fun T => run11 (p := x.p) (c := x.cap) (l := 1048576) (st := x.st) (g := x.g) hx.few (by omega) (H ++ T)
  have hl := hfr_len x
  have htk := hfr_t (h := x)
  by_cases hs' : (1048576 : Int) - x.xs.length < 0
  · simp only [hs', if_true] at r11
    obtain ⟨R, hR⟩ : ∃ R, R = hfr x := ⟨_, rfl⟩
    rw [show hrow x.st x.p x.xs.length x.cap x.g = hfr x from rfl, ← hR] at r11
    rw [← hR] at hl htk ⊢
    rw [ev_call c7]; unfold k7; rw [evB_eq rfl]
    simp (maxSteps := 4000000) (disch := first | omega | (refine _root_.id ?_; simp only [pl_int, pl_bool, pl_str, pl_undef, pl_nil, pl_ptr, plA_c, plA_agg, plA_tup, plV_c, plV_agg, List.all_cons, List.all_nil, Bool.and_true, Bool.and_self, eq_self, vi_int, vi_bool, get_app, get_app0, List.getElem?_cons_zero, List.getElem?_cons_succ, Option.join_some, lst_get, getL, upd_at, upd_ne, Nat.reduceBEq])) only [evC_skip, evC_exit, evC_ret, evC_region, evC_seq, evC_block, ev_t, ev_k, putS_some, upd_l, putS_none, ops_nil, ops_pick, pick_bool, ops_consg, guard_bool, evC_condC, cond_bool, ops_cons, next_some, next_none, next_ite, nextD_some, nextD_none, nextD_ite, bind_ite, map_ite, then_ite, then_norm, then_ret, then_exit, out_ite, out_norm, out_ret, out_exit, done_ite, done_norm, done_ret, putL, getL, Option.bind_some, Option.map_some, Option.bind_none, Option.map_none, evalOp, AV.cells?, readCells, readCell, writeCells, get_app, get_app0, set_app, set_app0, len_app, List.getElem?_cons_zero, List.getElem?_cons_succ, Option.join_some, List.length_cons, List.length_nil, List.append_assoc, List.cons_append, List.nil_append, Nat.zero_add, Nat.add_zero, Nat.reduceAdd, Nat.reduceLeDiff, Nat.reduceLT, Nat.reduceMul, Nat.reduceSub, List.drop_zero, List.drop_succ_cons, List.take_zero, List.take_succ_cons, List.take_nil, List.drop_nil, if_true, if_false, ite_true, ite_false, ite_self, ↓reduceIte, reduceCtorEq, binA, binC, intBin, or_false, false_or, or_true, true_or, and_true, true_and, Int.reduceLT, Int.reduceLE, Int.reduceToNat, Int.reduceAdd, evalRs, evalR, AV.toV0?, mkRes, V0.toAV, decide_true, decide_false, and_self, Nat.reduceEqDiff, lst_get, Int.cast_ofNat_Int, eq_self, IntWalk.i64_in, IntWalk.i16_in, IntWalk.i32_in, IntWalk.i8_in, IntWalk.u8_in, Int.reduceNeg, finish_app, finish_id, pl_int, pl_bool, pl_str, pl_undef, pl_nil, pl_ptr, plA_c, plA_agg, plA_tup, plV_c, plV_agg, List.all_cons, List.all_nil, Bool.and_true, Bool.true_and, decide_eq_true_eq, decide_eq_false_iff_not, beq_self_eq_true, Bool.not_true, Bool.not_false, Bool.true_eq_false, Bool.false_eq_true, List.map_cons, List.map_nil, List.append_nil, setAt, CV.ok, eqRes, bne_self_eq_false, List.set_cons_zero, List.set_cons_succ, evC_drawn, dr_nil, dr_cons, chk_nil, chk_cons, re_same, unA, Bool.not_eq_true', Bool.not_eq_eq_eq_not, Bool.not_not, Int.zero_add, List.getElem?_nil, partsA, fillC, Int.reduceEq, Int.reduceMul, Int.reduceSub, Int.reduceTDiv, Int.reduceTMod, List.flatten_cons, List.flatten_nil, finish_no, tdiv_pos, tmod_pos, Int.reduceDiv, Int.reduceMod, len_add, vi_int, vi_bool, Int.reduceBNe, Int.reduceBEq, Nat.reduceBEq, Nat.reduceBNe, post_some, post_ite, ite_ex, upd_at, upd_ne, cast_nonneg, cast_toNat, Nat.mul_one, false_implies, true_implies, implies_true, chkg_bool, chk_consg, guard_undef, hl, htk, Nat.le_refl, r11]
  simp only [hs', if_false] at r11
  have r37 := fun T => run37 (p := p) (c := cap) (l := 1048576 - x.xs.length) tlen (by omega) (H ++ T)
  rw [← hc] at r37
  by_cases hs2 : (1048576 : Int) - x.xs.length - ts.length < 0
  · simp only [hs2, if_true] at r37
    obtain ⟨R, hR⟩ : ∃ R, R = hfr x := ⟨_, rfl⟩
    rw [show hrow x.st x.p x.xs.length x.cap x.g = hfr x from rfl, ← hR] at r11
    rw [← hR] at hl htk ⊢
    rw [ev_call c7]; unfold k7; rw [evB_eq rfl]
    simp (maxSteps := 4000000) (disch := first | omega | (refine _root_.id ?_; simp only [pl_int, pl_bool, pl_str, pl_undef, pl_nil, pl_ptr, plA_c, plA_agg, plA_tup, plV_c, plV_agg, List.all_cons, List.all_nil, Bool.and_true, Bool.and_self, eq_self, vi_int, vi_bool, get_app, get_app0, List.getElem?_cons_zero, List.getElem?_cons_succ, Option.join_some, lst_get, getL, upd_at, upd_ne, Nat.reduceBEq])) only [evC_skip, evC_exit, evC_ret, evC_region, evC_seq, evC_block, ev_t, ev_k, putS_some, upd_l, putS_none, ops_nil, ops_pick, pick_bool, ops_consg, guard_bool, evC_condC, cond_bool, ops_cons, next_some, next_none, next_ite, nextD_some, nextD_none, nextD_ite, bind_ite, map_ite, then_ite, then_norm, then_ret, then_exit, out_ite, out_norm, out_ret, out_exit, done_ite, done_norm, done_ret, putL, getL, Option.bind_some, Option.map_some, Option.bind_none, Option.map_none, evalOp, AV.cells?, readCells, readCell, writeCells, get_app, get_app0, set_app, set_app0, len_app, List.getElem?_cons_zero, List.getElem?_cons_succ, Option.join_some, List.length_cons, List.length_nil, List.append_assoc, List.cons_append, List.nil_append, Nat.zero_add, Nat.add_zero, Nat.reduceAdd, Nat.reduceLeDiff, Nat.reduceLT, Nat.reduceMul, Nat.reduceSub, List.drop_zero, List.drop_succ_cons, List.take_zero, List.take_succ_cons, List.take_nil, List.drop_nil, if_true, if_false, ite_true, ite_false, ite_self, ↓reduceIte, reduceCtorEq, binA, binC, intBin, or_false, false_or, or_true, true_or, and_true, true_and, Int.reduceLT, Int.reduceLE, Int.reduceToNat, Int.reduceAdd, evalRs, evalR, AV.toV0?, mkRes, V0.toAV, decide_true, decide_false, and_self, Nat.reduceEqDiff, lst_get, Int.cast_ofNat_Int, eq_self, IntWalk.i64_in, IntWalk.i16_in, IntWalk.i32_in, IntWalk.i8_in, IntWalk.u8_in, Int.reduceNeg, finish_app, finish_id, pl_int, pl_bool, pl_str, pl_undef, pl_nil, pl_ptr, plA_c, plA_agg, plA_tup, plV_c, plV_agg, List.all_cons, List.all_nil, Bool.and_true, Bool.true_and, decide_eq_true_eq, decide_eq_false_iff_not, beq_self_eq_true, Bool.not_true, Bool.not_false, Bool.true_eq_false, Bool.false_eq_true, List.map_cons, List.map_nil, List.append_nil, setAt, CV.ok, eqRes, bne_self_eq_false, List.set_cons_zero, List.set_cons_succ, evC_drawn, dr_nil, dr_cons, chk_nil, chk_cons, re_same, unA, Bool.not_eq_true', Bool.not_eq_eq_eq_not, Bool.not_not, Int.zero_add, List.getElem?_nil, partsA, fillC, Int.reduceEq, Int.reduceMul, Int.reduceSub, Int.reduceTDiv, Int.reduceTMod, List.flatten_cons, List.flatten_nil, finish_no, tdiv_pos, tmod_pos, Int.reduceDiv, Int.reduceMod, len_add, vi_int, vi_bool, Int.reduceBNe, Int.reduceBEq, Nat.reduceBEq, Nat.reduceBNe, post_some, post_ite, ite_ex, upd_at, upd_ne, cast_nonneg, cast_toNat, Nat.mul_one, false_implies, true_implies, implies_true, chkg_bool, chk_consg, guard_undef, hl, htk, Nat.le_refl, r11, r37, hs']
  simp only [hs2, if_false] at r37
  have few : x.xs.length ≤ 1048576 := by omega
  have tfew : ts.length ≤ 1048576 := by omega
  have hA0 : HfAt H x := ⟨by omega, hx.rng, hx.at_⟩
  have hT0 : TsAt H c ts := ⟨p, cap, hc, hp⟩
  -- the heaps
  obtain ⟨H0, hH0⟩ : ∃ K, K = H ++ [b26 x] := ⟨_, rfl⟩
  have pre0 : Pre H H0 := by rw [hH0]; exact pre_app
  have len0 : H0.length = H.length + 1 := by rw [hH0]; simp
  have g00 : H0.get H.length = b26 x := by rw [hH0, get_app0]; rfl
  have hA := hA0.pre pre0
  have hT := hT0.pre pre0
  clear hA0 hT0
  obtain ⟨x1, J1, e1, p1, q1, o1⟩ := toH hA few
  obtain ⟨c1, L1, f1, r1, m1, _, _⟩ := toTs (hT.pre p1) tfew
  obtain ⟨w, J2, e2, p2, q2, n2⟩ := run38 (o1.at_.pre r1) m1.at_ tfew hrt
  rw [q1] at e2 q2
  obtain ⟨K2, hK2⟩ : ∃ K, K = J2 ++ [hfb w] := ⟨_, rfl⟩
  have pk2 : Pre J2 K2 := by rw [hK2]; exact pre_app
  have lk2 : K2.length = J2.length + 1 := by rw [hK2]; simp
  have gw2 : K2.get J2.length = hfb w := by rw [hK2, get_app0]; rfl
  have p02 : Pre H0 K2 := p1.trans (r1.trans (p2.trans pk2))
  obtain ⟨x0, J3, e3, p3, q3, o3⟩ := toH (hA.pre p02) few
  obtain ⟨K3, hK3⟩ : ∃ K, K = J3 ++ [hfb x0] := ⟨_, rfl⟩
  have pk3 : Pre J3 K3 := by rw [hK3]; exact pre_app
  have lk3 : K3.length = J3.length + 1 := by rw [hK3]; simp
  have gx3 : K3.get J3.length = hfb x0 := by rw [hK3, get_app0]; rfl
  have p23 : Pre K2 K3 := p3.trans pk3
  obtain ⟨c0, L3, f3, r3, m3, pt3, lt3⟩ := toTs (hT.pre (p02.trans p23)) tfew
  obtain ⟨g, J4, e4, p4, q4, n4⟩ := run40 (o3.at_.pre (pk3.trans r3)) m3.at_ tfew hrt
  rw [q3] at e4 q4
  obtain ⟨K4, hK4⟩ : ∃ K, K = J4 ++ [hfb g] := ⟨_, rfl⟩
  have pk4 : Pre J4 K4 := by rw [hK4]; exact pre_app
  have lk4 : K4.length = J4.length + 1 := by rw [hK4]; simp
  have gg4 : K4.get J4.length = hfb g := by rw [hK4, get_app0]; rfl
  have p34 : Pre K3 K4 := r3.trans (p4.trans pk4)
  have hw4 : HfAt K4 w := n2.at_.pre (pk2.trans (p23.trans p34))
  have e5 := eqH (q2.trans q4.symm) (n4.at_.pre pk4) hw4
  obtain ⟨x2, J5, e6, p5, q5, o5⟩ := toH (hA.pre (p02.trans (p23.trans p34))) few
  have p45 := p34.trans p5
  have hx05 : HfAt J5 x0 := o3.at_.pre (pk3.trans p45)
  have e7 := eqH (q5.trans q3.symm) hx05 o5.at_
  obtain ⟨c2, L5, f5, r5, m5, _, _⟩ := toTs (hT.pre (p02.trans (p23.trans p45))) tfew
  have e7' := eqTs (by omega) (m3.at_.pre (p4.trans (pk4.trans (p5.trans r5)))) m5.at_
  have fx0 : x0.xs.length ≤ 1048576 := o3.few
  have fg : g.xs.length ≤ 60 := by rw [show g.xs = (taR x.pr ts).1.1.xs from congrArg Pr.xs q4]; exact ta_few
  have ex0 : x0.xs.length = x.xs.length := by rw [show x0.xs = x.xs from congrArg Pr.xs q3]
  obtain ⟨J6, e8, l6, pr6, _, k6⟩ := mkH (k := 1) (o3.nw.pre (pk3.trans (p45.trans r5))) (by omega) fx0
  have l1 := p1.len
  have l1' := r1.len
  have l2 := p2.len
  have l3 := p3.len
  have l3' := r3.len
  have l4 := p4.len
  have l5 := p5.len
  have l5' := r5.len
  have gk6 : ∀ i b, L5.get i = some b → i < K2.length ∨ J3.length ≤ i → J6.get i = some b := fun i b h hi => k6 i b h (fun o h0 e => by
    obtain ⟨id', h5, h6, h7⟩ := o3.own
    have h8 := get_some_lt h7
    rw [e] at h5; injection h5 with h5; injection h5 with h5
    omega)
  have m6 : TsNw K3 J6 c0 ts := (m3.pre (p4.trans (pk4.trans (p5.trans r5)))).turn fun i b h hi => gk6 i b h (.inr (by omega))
  obtain ⟨L6, f6, l6', ps6, _, s6⟩ := mkTs (k := 1 + 2 * x0.xs.length) m6 (by omega) tfew
  have gs6 : ∀ i b, J6.get i = some b → i ≠ K3.length → L6.get i = some b := fun i b h hi => s6 i b h (fun o h0 e => by
    rw [pt3] at e; injection e with e; injection e with e e'
    exact hi e.symm)
  have q25 : Pre J2 L5 := pk2.trans (p23.trans (p45.trans r5))
  have q45 : Pre J4 L5 := pk4.trans (p5.trans r5)
  have hw6 : HfNw L1 L6 w := n2.turn fun i b h _ => by
    have h1 := get_some_lt h
    exact gs6 _ _ (gk6 _ _ (q25.get h) (.inl (by omega))) (by omega)
  have ng6 : HfNw L3 L6 g := n4.turn fun i b h hi => gs6 _ _ (gk6 _ _ (q45.get h) (.inr (by omega))) (by omega)
  have e9 := eqH (q2.trans q4.symm) ng6.at_ hw6.at_
  obtain ⟨J7, e10, l7, pr7, mk7, k7⟩ := mkH (k := 1) ng6 (by omega) (by omega)
  have gk7 : ∀ i b, L6.get i = some b → i < L3.length ∨ J4.length ≤ i → J7.get i = some b := fun i b h hi => k7 i b h (fun o h0 e => by
    have h1 := NwN.lt n4 h0 e
    omega)
  have hw7 : HfNw L1 J7 w := n2.turn fun i b h _ => by
    have h1 := get_some_lt h
    exact gk7 _ _ (gs6 _ _ (gk6 _ _ (q25.get h) (.inl (by omega))) (by omega)) (.inl (by omega))
  have e11 := heldH mk7 (by omega) (by omega)
  have pH7 : Pre H0 J7 := pr7 H0 (by have := (p02.trans p23).len; omega) (ps6 H0 (p02.trans p23).len (pr6 H0 p02.len (p02.trans (p23.trans (p45.trans r5)))))
  obtain ⟨x3, J8, e12, p8, q8, o8⟩ := toH (hA.pre pH7) few
  obtain ⟨c3, L8, f8, r8, m8, _, _⟩ := toTs (hT.pre (pH7.trans p8)) tfew
  obtain ⟨y, J9, e13, p9, q9, n9⟩ := run40 (o8.at_.pre r8) m8.at_ tfew hrt
  rw [q8] at e13 q9
  have p79 : Pre J7 (J9 ++ [hfb y]) := p8.trans (r8.trans (p9.trans pre_app))
  have e14' := eqH (q2.trans q9.symm) (n9.at_.pre (pre_app (t := [hfb y]))) (hw7.at_.pre p79)
  have e15 := heldH (mk7.pre p79) (by omega) (by omega)
  -- what lies where
  have a1 := p1.get g00
  have a1' := r1.get a1
  have a2 := p2.get a1'
  have a3 := p3.get (pk2.get a2)
  have w3 := p3.get gw2
  have a3' := r3.get (pk3.get a3)
  have w3' := r3.get (pk3.get w3)
  have x3' := r3.get gx3
  have a4 := p4.get a3'
  have w4 := p4.get w3'
  have x4 := p4.get x3'
  have a5 := p5.get (pk4.get a4)
  have w5 := p5.get (pk4.get w4)
  have x5 := p5.get (pk4.get x4)
  have g5 := p5.get gg4
  have a5' := r5.get a5
  have w5' := r5.get w5
  have x5' := r5.get x5
  have g5' := r5.get g5
  have a6 := gs6 _ _ (gk6 _ _ a5' (by omega)) (by omega)
  have w6 := gs6 _ _ (gk6 _ _ w5' (by omega)) (by omega)
  have g6 := gs6 _ _ (gk6 _ _ g5' (by omega)) (by omega)
  have a7 := gk7 _ _ a6 (by omega)
  have w7 := gk7 _ _ w6 (by omega)
  have g7 := gk7 _ _ g6 (by omega)
  have a8 := p8.get a7
  have a8' := r8.get a8
  have w8 := p8.get w7
  have g8 := p8.get g7
  have a9 := p9.get a8'
  have w9 := p9.get (r8.get w8)
  have g9 := p9.get (r8.get g8)
  have la2 := get_some_lt a2
  have la3 := get_some_lt a3
  have lw3 := get_some_lt w3
  have la4 := get_some_lt a4
  have lw4 := get_some_lt w4
  have lx4 := get_some_lt x4
  have la9 := get_some_lt a9
  have lw9 := get_some_lt w9
  have lg9 := get_some_lt g9
  have pH : Pre H (J9 ++ [hfb y]) := pre0.trans (pH7.trans p79)
  have hlw := hfr_len w
  have htw := hfr_t (h := w)
  have how := hfr_ok (h := w)
  have hl0 := hfr_len x0
  have ht0 := hfr_t (h := x0)
  have ho0 := hfr_ok (h := x0)
  have hlg := hfr_len g
  have htg := hfr_t (h := g)
  have hog := hfr_ok (h := g)
  have hly := hfr_len y
  have hty := hfr_t (h := y)
  have hoy := hfr_ok (h := y)
  have n1 : ¬ (1 + 2 * (x0.xs.length : Int) + 4 * (ts.length : Int)) < 0 := by omega
  have n2' : ¬ (1 + 2 * (g.xs.length : Int)) < 0 := by omega
  have fin : ∀ (T : List (Option Blk)) (v : AV), T = [hfb y] → v.plain = true → finish true H v (J9 ++ T) = some (v, H) := fun T v hT hv => by rw [hT]; exact finish_pre pH hv
  generalize taR x.pr ts = cr at *
  subst hK2; subst hK3; subst hK4; subst hH0
  clear n2 n4 o1 o3 o5 o8 n9 hw4 hw6 hw7 ng6 hx05 k6 k7 gk6 gk7 s6 gs6 m1 m3 m5 m6 m8 mk7 pr6 pr7 ps6 p1 p2 p3 p4 p5 p8 p9 pk2 pk3 pk4 p02 p23 p34 p45 p79 pH7 pH pre0 hA gw2 gx3 gg4 g00 q25 q45 r1 r3 r5 r8 hT
  obtain ⟨R, hR⟩ : ∃ R, R = hfr x := ⟨_, rfl⟩
  obtain ⟨Rw, hRw⟩ : ∃ R, R = hfr w := ⟨_, rfl⟩
  obtain ⟨R0, hR0⟩ : ∃ R, R = hfr x0 := ⟨_, rfl⟩
  obtain ⟨Rg, hRg⟩ : ∃ R, R = hfr g := ⟨_, rfl⟩
  obtain ⟨Ry, hRy⟩ : ∃ R, R = hfr y := ⟨_, rfl⟩
  rw [show hrow x.st x.p x.xs.length x.cap x.g = hfr x from rfl] at r11
  simp only [b26, hfb, ← hR, ← hRw, ← hR0, ← hRg, ← hRy] at r11 r37 hl htk e1 e2 e3 e4 e5 e6 e7 e8 e9 e10 e11 e12 e13 e14' e15 a1 a1' a2 a3 a3' a4 a5 a5' a6 a7 a8 a8' a9 w3 w3' w4 w5 w5' w6 w7 w8 w9 x3' x4 x5 x5' g5 g5' g6 g7 g8 g9 f1 f3 f5 f6 f8 e7' hlw htw how hl0 ht0 ho0 hlg htg hog hly hty hoy fin ⊢
  rw [ev_call c7]; unfold k7; rw [evB_eq rfl]
  simp (maxSteps := 4000000) (disch := first | omega | (refine _root_.id ?_; simp only [pl_int, pl_bool, pl_str, pl_undef, pl_nil, pl_ptr, plA_c, plA_agg, plA_tup, plV_c, plV_agg, List.all_cons, List.all_nil, Bool.and_true, Bool.and_self, eq_self, vi_int, vi_bool, get_app, get_app0, List.getElem?_cons_zero, List.getElem?_cons_succ, Option.join_some, lst_get, getL, upd_at, upd_ne, Nat.reduceBEq])) only [evC_skip, evC_exit, evC_ret, evC_region, evC_seq, evC_block, ev_t, ev_k, putS_some, upd_l, putS_none, ops_nil, ops_pick, pick_bool, ops_consg, guard_bool, evC_condC, cond_bool, ops_cons, next_some, next_none, next_ite, nextD_some, nextD_none, nextD_ite, bind_ite, map_ite, then_ite, then_norm, then_ret, then_exit, out_ite, out_norm, out_ret, out_exit, done_ite, done_norm, done_ret, putL, getL, Option.bind_some, Option.map_some, Option.bind_none, Option.map_none, evalOp, AV.cells?, readCells, readCell, writeCells, get_app, get_app0, set_app, set_app0, len_app, List.getElem?_cons_zero, List.getElem?_cons_succ, Option.join_some, List.length_cons, List.length_nil, List.append_assoc, List.cons_append, List.nil_append, Nat.zero_add, Nat.add_zero, Nat.reduceAdd, Nat.reduceLeDiff, Nat.reduceLT, Nat.reduceMul, Nat.reduceSub, List.drop_zero, List.drop_succ_cons, List.take_zero, List.take_succ_cons, List.take_nil, List.drop_nil, if_true, if_false, ite_true, ite_false, ite_self, ↓reduceIte, reduceCtorEq, binA, binC, intBin, or_false, false_or, or_true, true_or, and_true, true_and, Int.reduceLT, Int.reduceLE, Int.reduceToNat, Int.reduceAdd, evalRs, evalR, AV.toV0?, mkRes, V0.toAV, decide_true, decide_false, and_self, Nat.reduceEqDiff, lst_get, Int.cast_ofNat_Int, eq_self, IntWalk.i64_in, IntWalk.i16_in, IntWalk.i32_in, IntWalk.i8_in, IntWalk.u8_in, Int.reduceNeg, finish_app, finish_id, pl_int, pl_bool, pl_str, pl_undef, pl_nil, pl_ptr, plA_c, plA_agg, plA_tup, plV_c, plV_agg, List.all_cons, List.all_nil, Bool.and_true, Bool.true_and, decide_eq_true_eq, decide_eq_false_iff_not, beq_self_eq_true, Bool.not_true, Bool.not_false, Bool.true_eq_false, Bool.false_eq_true, List.map_cons, List.map_nil, List.append_nil, setAt, CV.ok, eqRes, bne_self_eq_false, List.set_cons_zero, List.set_cons_succ, evC_drawn, dr_nil, dr_cons, chk_nil, chk_cons, re_same, unA, Bool.not_eq_true', Bool.not_eq_eq_eq_not, Bool.not_not, Int.zero_add, List.getElem?_nil, partsA, fillC, Int.reduceEq, Int.reduceMul, Int.reduceSub, Int.reduceTDiv, Int.reduceTMod, List.flatten_cons, List.flatten_nil, finish_no, tdiv_pos, tmod_pos, Int.reduceDiv, Int.reduceMod, len_add, vi_int, vi_bool, Int.reduceBNe, Int.reduceBEq, Nat.reduceBEq, Nat.reduceBNe, post_some, post_ite, ite_ex, upd_at, upd_ne, cast_nonneg, cast_toNat, Nat.mul_one, false_implies, true_implies, implies_true, chkg_bool, chk_consg, guard_undef, hl, htk, Nat.le_refl, r11, r37, hs', hs2, e1, a1, f1, a1', e2, hlw, htw, how, a2, get_appl la2, e3, a3, w3, hl0, ht0, ho0, get_appl la3, get_appl lw3, f3, a3', w3', x3', e4, a4, w4, x4, hlg, htg, hog, get_appl la4, get_appl lw4, get_appl lx4, e5, e6, a5, w5, x5, g5, e7, f5, a5', w5', x5', g5', e7', e8, f6, n1, a6, w6, g6, e9, e10, n2', a7, w7, g7, e11, e12, a8, w8, g8, f8, a8', e13, a9, w9, g9, hly, hty, hoy, get_appl la9, get_appl lw9, get_appl lg9, e14', e15, fin]
theorem tms_inv {H : AHeap} {c : CV} {elems : List (List CV)} (h : Slc H c elems) (he : ∀ p ∈ elems, p.length = 4 ∧ ArgOk H tyTamper p) : ∃ p cap ts, c = .slice p ts.length cap ∧ Tts H p ts ∧ elems.length = ts.length ∧ ∀ t ∈ ts, rngT t := by
  obtain ⟨ts, rfl, hr⟩ := elems_map (f := trow) (ok := rngT) (fun p hp => tamper_inv hp) (fun p hp => (he p hp).2)
  rcases h with ⟨rfl, h⟩ | ⟨id, t, rfl, h⟩
  · have : ts = [] := by simpa using h
    subst this
    exact ⟨none, .exact 0, [], rfl, fun h0 => by simp at h0, rfl, hr⟩
  · exact ⟨some (id, 0), .any, ts, by simp, fun h0 => ⟨id, t, .ro, rfl, h (by simpa using h0)⟩, by simp, hr⟩
theorem law7 (H : AHeap) (vs : List AV) (h : ArgsOk H [tyHalf, .sl 4 6 tyTamper] vs) : ∃ H', ev kk 7 vs H = some (.c (.bool true), H') := by
  obtain ⟨_, _, rfl, h1, h2⟩ := h.cons_inv
  obtain ⟨_, _, rfl, h3, h4⟩ := h2.cons_inv
  obtain rfl := h4.nil_inv
  obtain ⟨cs, rfl, h0⟩ := h1.agg_inv rfl
  obtain ⟨c, elems, rfl, g1, g2, g3⟩ := h3.sl_inv
  obtain ⟨x, rfl, hx⟩ := hf_inv h0
  obtain ⟨p, cap, ts, hc, hp, hl, hr⟩ := tms_inv g1 g2
  exact ⟨H, run7 hx hc hp hr (by omega)⟩
end Go.Proofs.Ytnblibimbggheaa
