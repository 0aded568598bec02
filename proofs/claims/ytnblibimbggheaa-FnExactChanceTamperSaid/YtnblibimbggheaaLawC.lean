/- What functions of the program answer: part LawC. -/
import Derived.Test.YtnblibimbggheaaChance
import Derived.Test.YtnblibimbggheaaLawT
set_option linter.unusedVariables false
set_option linter.unusedSimpArgs false
set_option linter.unusedSectionVars false
namespace Go.Proofs.Ytnblibimbggheaa
open Go Go.Proofs.Ytnblibimbggheaa.VI
set_option maxHeartbeats 16000000
set_option maxRecDepth 20000
theorem ct_few {p : Pr} {s : Int} : (ctR p s).1.1.xs.length ≤ 60 := by
  unfold ctR
  split
  · split
    · simp [zPr]
    · exact tm_few
  · simp [zPr]
theorem run6 {x : Hf} {s : Int} {H : AHeap} (hx : HfIn H x) : ev kk 6 [.agg (hfr x), .c (.int .u32 s)] H = some (.c (.bool true), H) := by
  have r11 := fun T => run11 (p := x.p) (c := x.cap) (l := 1048576) (st := x.st) (g := x.g) hx.few (by omega) (H ++ T)
  have hl := hfr_len x
  have htk := hfr_t (h := x)
  by_cases hs' : (1048576 : Int) - x.xs.length < 0
  · simp only [hs', if_true] at r11
    obtain ⟨R, hR⟩ : ∃ R, R = hfr x := ⟨_, rfl⟩
    rw [show hrow x.st x.p x.xs.length x.cap x.g = hfr x from rfl, ← hR] at r11
    rw [← hR] at hl htk ⊢
    rw [ev_call c6]; unfold k6; rw [evB_eq rfl]
    simp (maxSteps := 4000000) (disch := first | omega | (refine _root_.id ?_; simp only [pl_int, pl_bool, pl_str, pl_undef, pl_nil, pl_ptr, plA_c, plA_agg, plA_tup, plV_c, plV_agg, List.all_cons, List.all_nil, Bool.and_true, Bool.and_self, eq_self, vi_int, vi_bool, get_app, get_app0, List.getElem?_cons_zero, List.getElem?_cons_succ, Option.join_some, lst_get, getL, upd_at, upd_ne, Nat.reduceBEq])) only [evC_skip, evC_exit, evC_ret, evC_region, evC_seq, evC_block, ev_t, ev_k, putS_some, upd_l, putS_none, ops_nil, ops_pick, pick_bool, ops_consg, guard_bool, evC_condC, cond_bool, ops_cons, next_some, next_none, next_ite, nextD_some, nextD_none, nextD_ite, bind_ite, map_ite, then_ite, then_norm, then_ret, then_exit, out_ite, out_norm, out_ret, out_exit, done_ite, done_norm, done_ret, putL, getL, Option.bind_some, Option.map_some, Option.bind_none, Option.map_none, evalOp, AV.cells?, readCells, readCell, writeCells, get_app, get_app0, set_app, set_app0, len_app, List.getElem?_cons_zero, List.getElem?_cons_succ, Option.join_some, List.length_cons, List.length_nil, List.append_assoc, List.cons_append, List.nil_append, Nat.zero_add, Nat.add_zero, Nat.reduceAdd, Nat.reduceLeDiff, Nat.reduceLT, Nat.reduceMul, Nat.reduceSub, List.drop_zero, List.drop_succ_cons, List.take_zero, List.take_succ_cons, List.take_nil, List.drop_nil, if_true, if_false, ite_true, ite_false, ite_self, ↓reduceIte, reduceCtorEq, binA, binC, intBin, or_false, false_or, or_true, true_or, and_true, true_and, Int.reduceLT, Int.reduceLE, Int.reduceToNat, Int.reduceAdd, evalRs, evalR, AV.toV0?, mkRes, V0.toAV, decide_true, decide_false, and_self, Nat.reduceEqDiff, lst_get, Int.cast_ofNat_Int, eq_self, IntWalk.i64_in, IntWalk.i16_in, IntWalk.i32_in, IntWalk.i8_in, IntWalk.u8_in, Int.reduceNeg, finish_app, finish_id, pl_int, pl_bool, pl_str, pl_undef, pl_nil, pl_ptr, plA_c, plA_agg, plA_tup, plV_c, plV_agg, List.all_cons, List.all_nil, Bool.and_true, Bool.true_and, decide_eq_true_eq, decide_eq_false_iff_not, beq_self_eq_true, Bool.not_true, Bool.not_false, Bool.true_eq_false, Bool.false_eq_true, List.map_cons, List.map_nil, List.append_nil, setAt, CV.ok, eqRes, bne_self_eq_false, List.set_cons_zero, List.set_cons_succ, evC_drawn, dr_nil, dr_cons, chk_nil, chk_cons, re_same, unA, Bool.not_eq_true', Bool.not_eq_eq_eq_not, Bool.not_not, Int.zero_add, List.getElem?_nil, partsA, fillC, Int.reduceEq, Int.reduceMul, Int.reduceSub, Int.reduceTDiv, Int.reduceTMod, List.flatten_cons, List.flatten_nil, finish_no, tdiv_pos, tmod_pos, Int.reduceDiv, Int.reduceMod, len_add, vi_int, vi_bool, Int.reduceBNe, Int.reduceBEq, Nat.reduceBEq, Nat.reduceBNe, post_some, post_ite, ite_ex, upd_at, upd_ne, cast_nonneg, cast_toNat, Nat.mul_one, false_implies, true_implies, implies_true, chkg_bool, chk_consg, guard_undef, hl, htk, Nat.le_refl, r11]
  simp only [hs', if_false] at r11
  have few : x.xs.length ≤ 1048576 := by omega
  have hA0 : HfAt H x := ⟨by omega, hx.rng, hx.at_⟩
  have e36 := fun K => run36 (t := (ctR x.pr s).1.2) K
  obtain ⟨bt, hbt⟩ : ∃ b : Option Blk, b = some ⟨38, trow (ctR x.pr s).1.2, .own⟩ := ⟨_, rfl⟩
  -- the heaps
  obtain ⟨H0, hH0⟩ : ∃ K, K = H ++ [b26 x] := ⟨_, rfl⟩
  have pre0 : Pre H H0 := by rw [hH0]; exact pre_app
  have len0 : H0.length = H.length + 1 := by rw [hH0]; simp
  have g00 : H0.get H.length = b26 x := by rw [hH0, get_app0]; rfl
  have hA := hA0.pre pre0
  obtain ⟨x1, J1, e1, p1, q1, o1⟩ := toH hA few
  obtain ⟨w, J2, e2, p2, q2, n2⟩ := run34 (s := s) o1.at_
  rw [q1] at e2 q2
  obtain ⟨K2, hK2⟩ : ∃ K, K = J2 ++ [hfb w, bt] := ⟨_, rfl⟩
  have pk2 : Pre J2 K2 := by rw [hK2]; exact pre_app
  have lk2 : K2.length = J2.length + 2 := by rw [hK2]; simp
  have gw2 : K2.get J2.length = hfb w := by rw [hK2, get_app0]; rfl
  have gv2 : K2.get (J2.length + 1) = bt := by rw [hK2, get_app]; rfl
  have p02 : Pre H0 K2 := p1.trans (p2.trans pk2)
  obtain ⟨x0, J3, e3, p3, q3, o3⟩ := toH (hA.pre p02) few
  obtain ⟨K3, hK3⟩ : ∃ K, K = J3 ++ [hfb x0] := ⟨_, rfl⟩
  have pk3 : Pre J3 K3 := by rw [hK3]; exact pre_app
  have lk3 : K3.length = J3.length + 1 := by rw [hK3]; simp
  have gx3 : K3.get J3.length = hfb x0 := by rw [hK3, get_app0]; rfl
  obtain ⟨g, J4, e4, p4, q4, n4⟩ := run35 (s := s) (o3.at_.pre pk3)
  rw [q3] at e4 q4
  obtain ⟨K4, hK4⟩ : ∃ K, K = J4 ++ [hfb g, bt] := ⟨_, rfl⟩
  have pk4 : Pre J4 K4 := by rw [hK4]; exact pre_app
  have lk4 : K4.length = J4.length + 2 := by rw [hK4]; simp
  have gg4 : K4.get J4.length = hfb g := by rw [hK4, get_app0]; rfl
  have gu4 : K4.get (J4.length + 1) = bt := by rw [hK4, get_app]; rfl
  have p23 : Pre K2 K3 := p3.trans pk3
  have p34 : Pre K3 K4 := p4.trans pk4
  have hw4 : HfAt K4 w := n2.at_.pre (pk2.trans (p23.trans p34))
  have e5 := eqH (q2.trans q4.symm) (n4.at_.pre pk4) hw4
  obtain ⟨x2, J5, e6, p5, q5, o5⟩ := toH (hA.pre (p02.trans (p23.trans p34))) few
  have p45 := p34.trans p5
  have hx05 : HfAt J5 x0 := o3.at_.pre (pk3.trans p45)
  have e7 := eqH (q5.trans q3.symm) hx05 o5.at_
  have fx0 : x0.xs.length ≤ 1048576 := o3.few
  have fg : g.xs.length ≤ 60 := by rw [show g.xs = (ctR x.pr s).1.1.xs from congrArg Pr.xs q4]; exact ct_few
  obtain ⟨J6, e8, l6, pr6, m6, k6⟩ := mkH (k := 1) (o3.nw.pre (pk3.trans p45)) (by omega) fx0
  have hlt0 := fun i o h0 (e : x0.p = some (i, o)) => NwN.lt o3.nw h0 e
  have l23 : J2.length < K2.length := by omega
  have l33 := pk3.len
  have l2 := p2.len
  have l1 := p1.len
  have l3 := p3.len
  have l4 := p4.len
  have l5 := p5.len
  have hw6 : HfAt J6 w := (hw4.pre p5).keep k6 (fun i o o' h0 hn e e' => by
    have h1 := (NwN.lt n2 h0 e).2
    have hx0 : 0 < x0.xs.length ∨ x0.xs.length = 0 := by omega
    obtain ⟨id, h2, h3, _⟩ := o3.own
    rw [e'] at h2; injection h2 with h2; injection h2 with h2
    omega)
  have hg6 : HfAt J6 g := ((n4.at_.pre pk4).pre p5).keep k6 (fun i o o' h0 hn e e' => by
    have h1 := (NwN.lt n4 h0 e).1
    obtain ⟨id, h2, h3, h4⟩ := o3.own
    have h5 := get_some_lt h4
    rw [e'] at h2; injection h2 with h2; injection h2 with h2
    omega)
  have ng6 : HfNw K3 J6 g := ⟨hg6.few, hg6.rng, fun h0 => by
    obtain ⟨id, m, h1, h2, h3, h4⟩ := n4.new h0
    refine ⟨id, m, h1, h2, k6 id _ ((pk4.trans p5).get h3) (fun o _ e' => ?_), h4⟩
    obtain ⟨id', h5, h6, h7⟩ := o3.own
    have h8 := get_some_lt h7
    rw [e'] at h5; injection h5 with h5; injection h5 with h5
    omega⟩
  have e9 := eqH (q2.trans q4.symm) hg6 hw6
  obtain ⟨J7, e10, l7, pr7, m7, k7⟩ := mkH (k := 1) ng6 (by omega) (by omega)
  have hw7 : HfAt J7 w := hw6.keep k7 (fun i o o' h0 hn e e' => by
    have h1 := (NwN.lt n2 h0 e).2
    have h2 := (NwN.lt n4 hn e').1
    omega)
  have e11 := heldH m7 (by omega) (by omega)
  have pH7 : Pre H0 J7 := pr7 H0 (by have := (p02.trans p23).len; omega) (pr6 H0 p02.len (p02.trans (p23.trans p45)))
  obtain ⟨x3, J8, e12, p8, q8, o8⟩ := toH (hA.pre pH7) few
  obtain ⟨y, J9, e13, p9, q9, n9⟩ := run35 (s := s) o8.at_
  rw [q8] at e13 q9
  have p79 : Pre J7 (J9 ++ [hfb y, bt]) := p8.trans (p9.trans pre_app)
  have e14' := eqH (q2.trans q9.symm) (n9.at_.pre (pre_app (t := [hfb y, bt]))) (hw7.pre p79)
  have e15 := heldH (m7.pre p79) (by omega) (by omega)
  -- what lies where
  have gk6 : ∀ i b, J5.get i = some b → i < K2.length ∨ J3.length ≤ i → J6.get i = some b := fun i b h hi => k6 i b h (fun o h0 e => by
    obtain ⟨id', h5, h6, h7⟩ := o3.own
    have h8 := get_some_lt h7
    rw [e] at h5; injection h5 with h5; injection h5 with h5
    omega)
  have gk7 : ∀ i b, J6.get i = some b → i < K3.length ∨ J4.length ≤ i → J7.get i = some b := fun i b h hi => k7 i b h (fun o h0 e => by
    have h1 := NwN.lt n4 h0 e
    omega)
  have a1 := p1.get g00
  have a2 := p2.get a1
  have a3 := p3.get (pk2.get a2)
  have w3 := p3.get gw2
  rw [hbt] at gv2 gu4
  have v3 := p3.get gv2
  have a4 := p4.get (pk3.get a3)
  have w4 := p4.get (pk3.get w3)
  have v4 := p4.get (pk3.get v3)
  have x4 := p4.get gx3
  have a5 := p5.get (pk4.get a4)
  have w5 := p5.get (pk4.get w4)
  have x5 := p5.get (pk4.get x4)
  have g5 := p5.get gg4
  have v5 := p5.get (pk4.get v4)
  have u5 := p5.get gu4
  have a6 := gk6 _ _ a5 (by omega)
  have w6 := gk6 _ _ w5 (by omega)
  have g6 := gk6 _ _ g5 (by omega)
  have v6 := gk6 _ _ v5 (by omega)
  have u6 := gk6 _ _ u5 (by omega)
  have a7 := gk7 _ _ a6 (by omega)
  have w7 := gk7 _ _ w6 (by omega)
  have g7 := gk7 _ _ g6 (by omega)
  have v7 := gk7 _ _ v6 (by omega)
  have u7 := gk7 _ _ u6 (by omega)
  have a8 := p8.get a7
  have w8 := p8.get w7
  have g8 := p8.get g7
  have v8 := p8.get v7
  have u8 := p8.get u7
  have a9 := p9.get a8
  have w9 := p9.get w8
  have g9 := p9.get g8
  have v9 := p9.get v8
  have u9 := p9.get u8
  have la2 := get_some_lt a2
  have la3 := get_some_lt a3
  have lw3 := get_some_lt w3
  have lv3 := get_some_lt v3
  have la4 := get_some_lt a4
  have lw4 := get_some_lt w4
  have lv4 := get_some_lt v4
  have lx4 := get_some_lt x4
  have la9 := get_some_lt a9
  have lw9 := get_some_lt w9
  have lv9 := get_some_lt v9
  have lu9 := get_some_lt u9
  have lg9 := get_some_lt g9
  have pH : Pre H (J9 ++ [hfb y, bt]) := pre0.trans (pH7.trans p79)
  have hlw := hfr_len w
  have htw := hfr_t (h := w)
  have how := hfr_ok (h := w)
  have hl0 := hfr_len x0
  have ht0 := hfr_t (h := x0)
  have ho0 := hfr_ok (h := x0)
  have hlg := hfr_len g
  have htg := hfr_t (h := g)
  have hog := hfr_ok (h := g)
  have hly := hfr_len y
  have hty := hfr_t (h := y)
  have hoy := hfr_ok (h := y)
  have n1 : ¬ (1 + 2 * (x0.xs.length : Int)) < 0 := by omega
  have n2' : ¬ (1 + 2 * (g.xs.length : Int)) < 0 := by omega
  have fin : ∀ (T : List (Option Blk)) (v : AV), T = [hfb y, bt] → v.plain = true → finish true H v (J9 ++ T) = some (v, H) := fun T v hT hv => by rw [hT]; exact finish_pre pH hv
  generalize ctR x.pr s = cr at *
  obtain ⟨⟨pp, tt⟩, sd, cd⟩ := cr
  dsimp only at *
  subst hbt
  subst hK2; subst hK3; subst hK4; subst hH0
  clear n2 n4 o1 o3 o5 o8 n9 hw4 hw6 hw7 hg6 ng6 hx05 k6 k7 gk6 gk7 m6 m7 pr6 pr7 hlt0 p1 p2 p3 p4 p5 p8 p9 pk2 pk3 pk4 p02 p23 p34 p45 p79 pH7 pH pre0 hA hA0 gw2 gx3 gg4 g00 gv2 gu4
  obtain ⟨R, hR⟩ : ∃ R, R = hfr x := ⟨_, rfl⟩
  obtain ⟨Rw, hRw⟩ : ∃ R, R = hfr w := ⟨_, rfl⟩
  obtain ⟨R0, hR0⟩ : ∃ R, R = hfr x0 := ⟨_, rfl⟩
  obtain ⟨Rg, hRg⟩ : ∃ R, R = hfr g := ⟨_, rfl⟩
  obtain ⟨Ry, hRy⟩ : ∃ R, R = hfr y := ⟨_, rfl⟩
  rw [show hrow x.st x.p x.xs.length x.cap x.g = hfr x from rfl] at r11
  simp only [b26, hfb, ← hR, ← hRw, ← hR0, ← hRg, ← hRy] at r11 hl htk e1 e2 e3 e4 e5 e6 e7 e8 e9 e10 e11 e12 e13 e14' e15 a1 a2 a3 a4 a5 a6 a7 a8 a9 w3 w4 w5 w6 w7 w8 w9 x4 x5 g5 g6 g7 g8 g9 hlw htw how hl0 ht0 ho0 hlg htg hog hly hty hoy fin ⊢
  rw [ev_call c6]; unfold k6; rw [evB_eq rfl]
  simp (maxSteps := 4000000) (disch := first | omega | (refine _root_.id ?_; simp only [pl_int, pl_bool, pl_str, pl_undef, pl_nil, pl_ptr, plA_c, plA_agg, plA_tup, plV_c, plV_agg, List.all_cons, List.all_nil, Bool.and_true, Bool.and_self, eq_self, vi_int, vi_bool, get_app, get_app0, List.getElem?_cons_zero, List.getElem?_cons_succ, Option.join_some, lst_get, getL, upd_at, upd_ne, Nat.reduceBEq])) only [evC_skip, evC_exit, evC_ret, evC_region, evC_seq, evC_block, ev_t, ev_k, putS_some, upd_l, putS_none, ops_nil, ops_pick, pick_bool, ops_consg, guard_bool, evC_condC, cond_bool, ops_cons, next_some, next_none, next_ite, nextD_some, nextD_none, nextD_ite, bind_ite, map_ite, then_ite, then_norm, then_ret, then_exit, out_ite, out_norm, out_ret, out_exit, done_ite, done_norm, done_ret, putL, getL, Option.bind_some, Option.map_some, Option.bind_none, Option.map_none, evalOp, AV.cells?, readCells, readCell, writeCells, get_app, get_app0, set_app, set_app0, len_app, List.getElem?_cons_zero, List.getElem?_cons_succ, Option.join_some, List.length_cons, List.length_nil, List.append_assoc, List.cons_append, List.nil_append, Nat.zero_add, Nat.add_zero, Nat.reduceAdd, Nat.reduceLeDiff, Nat.reduceLT, Nat.reduceMul, Nat.reduceSub, List.drop_zero, List.drop_succ_cons, List.take_zero, List.take_succ_cons, List.take_nil, List.drop_nil, if_true, if_false, ite_true, ite_false, ite_self, ↓reduceIte, reduceCtorEq, binA, binC, intBin, or_false, false_or, or_true, true_or, and_true, true_and, Int.reduceLT, Int.reduceLE, Int.reduceToNat, Int.reduceAdd, evalRs, evalR, AV.toV0?, mkRes, V0.toAV, decide_true, decide_false, and_self, Nat.reduceEqDiff, lst_get, Int.cast_ofNat_Int, eq_self, IntWalk.i64_in, IntWalk.i16_in, IntWalk.i32_in, IntWalk.i8_in, IntWalk.u8_in, Int.reduceNeg, finish_app, finish_id, pl_int, pl_bool, pl_str, pl_undef, pl_nil, pl_ptr, plA_c, plA_agg, plA_tup, plV_c, plV_agg, List.all_cons, List.all_nil, Bool.and_true, Bool.true_and, decide_eq_true_eq, decide_eq_false_iff_not, beq_self_eq_true, Bool.not_true, Bool.not_false, Bool.true_eq_false, Bool.false_eq_true, List.map_cons, List.map_nil, List.append_nil, setAt, CV.ok, eqRes, bne_self_eq_false, List.set_cons_zero, List.set_cons_succ, evC_drawn, dr_nil, dr_cons, chk_nil, chk_cons, re_same, unA, Bool.not_eq_true', Bool.not_eq_eq_eq_not, Bool.not_not, Int.zero_add, List.getElem?_nil, partsA, fillC, Int.reduceEq, Int.reduceMul, Int.reduceSub, Int.reduceTDiv, Int.reduceTMod, List.flatten_cons, List.flatten_nil, finish_no, tdiv_pos, tmod_pos, Int.reduceDiv, Int.reduceMod, len_add, vi_int, vi_bool, Int.reduceBNe, Int.reduceBEq, Nat.reduceBEq, Nat.reduceBNe, post_some, post_ite, ite_ex, upd_at, upd_ne, cast_nonneg, cast_toNat, Nat.mul_one, false_implies, true_implies, implies_true, chkg_bool, chk_consg, guard_undef, hl, htk, Nat.le_refl, r11, hs', e36, e1, a1, e2, hlw, htw, how, a2, get_appl la2, e3, a3, w3, v3, hl0, ht0, ho0, get_appl la3, get_appl lw3, get_appl lv3, e4, a4, w4, v4, x4, hlg, htg, hog, get_appl la4, get_appl lw4, get_appl lv4, get_appl lx4, e5, e6, a5, w5, v5, x5, g5, u5, e7, e8, n1, a6, w6, v6, g6, u6, e9, e10, n2', a7, w7, v7, g7, u7, e11, e12, a8, w8, v8, g8, u8, e13, a9, w9, v9, g9, u9, hly, hty, hoy, get_appl la9, get_appl lw9, get_appl lv9, get_appl lg9, get_appl lu9, e14', e15, fin]
theorem law6 (H : AHeap) (vs : List AV) (h : ArgsOk H [tyHalf, .int .u32] vs) : ∃ H', ev kk 6 vs H = some (.c (.bool true), H') := by
  obtain ⟨_, _, rfl, h1, h2⟩ := h.cons_inv
  obtain ⟨_, _, rfl, h3, h4⟩ := h2.cons_inv
  obtain rfl := h4.nil_inv
  obtain ⟨cs, rfl, h0⟩ := h1.agg_inv rfl
  obtain ⟨x, rfl, hx⟩ := hf_inv h0
  obtain ⟨s, rfl, _⟩ := h3.int_inv
  exact ⟨H, run6 hx⟩
end Go.Proofs.Ytnblibimbggheaa
