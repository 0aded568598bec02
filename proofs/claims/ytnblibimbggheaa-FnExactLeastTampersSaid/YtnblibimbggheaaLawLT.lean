/- What functions of the program answer: part LawLT. -/
import Derived.Test.YtnblibimbggheaaLeast7
import Derived.Test.YtnblibimbggheaaLawT
import Derived.Test.YtnblibimbggheaaLawG
set_option linter.unusedVariables false
set_option linter.unusedSimpArgs false
set_option linter.unusedSectionVars false
namespace Go.Proofs.Ytnblibimbggheaa
open Go Go.Proofs.Ytnblibimbggheaa.VI
set_option maxHeartbeats 16000000
set_option maxRecDepth 20000
theorem run9 {x : Hf} {a m : Int} {H : AHeap} (hx : HfIn H x)  : ev kk 9 [.agg (hfr x), .c (.int .i64 a), .c (.int .i64 m)] H = some (.c (.bool true), H) := by
  have r11 := fun T => run11 (p := x.p) (c := x.cap) (l := 1048576) (st := x.st) (g := x.g) hx.few (by omega) (H ++ T)
  have hl := hfr_len x
  have htk := hfr_t (h := x)
  by_cases hs' : (1048576 : Int) - x.xs.length < 0
  · simp only [hs', if_true] at r11
    obtain ⟨R, hR⟩ : ∃ R, R = hfr x := ⟨_, rfl⟩
    rw [show hrow x.st x.p x.xs.length x.cap x.g = hfr x from rfl, ← hR] at r11
    rw [← hR] at hl htk ⊢
    rw [ev_call c9]; unfold k9; rw [evB_eq rfl]
    simp (maxSteps := 4000000) (disch := first | omega | (refine _root_.id ?_; simp only [pl_int, pl_bool, pl_str, pl_undef, pl_nil, pl_ptr, plA_c, plA_agg, plA_tup, plV_c, plV_agg, List.all_cons, List.all_nil, Bool.and_true, Bool.and_self, eq_self, vi_int, vi_bool, get_app, get_app0, List.getElem?_cons_zero, List.getElem?_cons_succ, Option.join_some, lst_get, getL, upd_at, upd_ne, Nat.reduceBEq])) only [evC_ret, evC_region, evC_seq, ev_t, ev_k, putS_some, upd_l, ops_nil, evC_condC, cond_bool, ops_cons, next_some, then_norm, then_ret, done_ret, putL, getL, Option.bind_some, Option.map_some, evalOp, AV.cells?, readCells, get_app0, List.getElem?_cons_zero, Option.join_some, Nat.zero_add, List.drop_zero, ↓reduceIte, reduceCtorEq, binA, binC, intBin, or_false, or_true, Int.reduceLT, evalRs, evalR, AV.toV0?, mkRes, V0.toAV, decide_true, lst_get, eq_self, Int.reduceNeg, finish_app, List.map_cons, List.map_nil, List.append_nil, hl, htk, Nat.le_refl, r11]
  simp only [hs', if_false] at r11
  have few : x.xs.length ≤ 1048576 := by omega
  have hA0 : HfAt H x := ⟨by omega, hx.rng, hx.at_⟩
  -- the heaps
  obtain ⟨H0, hH0⟩ : ∃ K, K = H ++ [b26 x] := ⟨_, rfl⟩
  have pre0 : Pre H H0 := by rw [hH0]; exact pre_app
  have len0 : H0.length = H.length + 1 := by rw [hH0]; simp
  have g00 : H0.get H.length = b26 x := by rw [hH0, get_app0]; rfl
  have hA := hA0.pre pre0
  obtain ⟨x1, J1, e1, p1, q1, o1⟩ := toH hA few
  obtain ⟨cw, J2, e2, p2, n2⟩ := run46 (a := a) (m := m) o1.at_
  rw [q1] at e2 n2
  have p02 : Pre H0 J2 := p1.trans p2
  obtain ⟨x0, J3, e3, p3, q3, o3⟩ := toH (hA.pre p02) few
  obtain ⟨K3, hK3⟩ : ∃ K, K = J3 ++ [hfb x0] := ⟨_, rfl⟩
  have pk3 : Pre J3 K3 := by rw [hK3]; exact pre_app
  have lk3 : K3.length = J3.length + 1 := by rw [hK3]; simp
  have gx3 : K3.get J3.length = hfb x0 := by rw [hK3, get_app0]; rfl
  obtain ⟨cg, J4, e4, p4, n4⟩ := run47 (a := a) (m := m) (o3.at_.pre pk3)
  rw [q3] at e4 n4
  have p23 : Pre J2 K3 := p3.trans pk3
  have fts := lt_few (p := x.pr) (a := a) (m := m)
  generalize hcr : ltR x.pr a m = cr at *
  obtain ⟨ts, cd⟩ := cr
  dsimp only at *
  have hw4 : TsAt J4 cw ts := n2.at_.pre (p23.trans p4)
  have e5 := eqTs (by omega) n4.at_ hw4
  obtain ⟨x2, J5, e6, p5, q5, o5⟩ := toH (hA.pre (p02.trans (p23.trans p4))) few
  have p45 := p4.trans p5
  have hx05 : HfAt J5 x0 := o3.at_.pre (pk3.trans p45)
  have e7 := eqH (q5.trans q3.symm) hx05 o5.at_
  have fx0 : x0.xs.length ≤ 1048576 := o3.few
  obtain ⟨J6, e8, l6, pr6, m6, k6⟩ := mkH (k := 1) (o3.nw.pre (pk3.trans p45)) (by omega) fx0
  have l1 := p1.len
  have l2 := p2.len
  have l3 := p3.len
  have l4 := p4.len
  have l5 := p5.len
  have k6' : ∀ i b, J5.get i = some b → i < J2.length ∨ J3.length ≤ i → J6.get i = some b := fun i b h hi => k6 i b h (fun o h0 e => by
    obtain ⟨id', h5, h6, h7⟩ := o3.own
    have h8 := get_some_lt h7
    rw [e] at h5; injection h5 with h5; injection h5 with h5
    omega)
  have nw2 : ∀ i b, J2.get i = some b → J6.get i = some b := fun i b h => k6' i b ((p23.trans p45).get h) (.inl (get_some_lt h))
  have hw6 : TsAt J6 cw ts := (n2.turn fun i b h _ => nw2 i b h).at_
  have ng6 : TsNw K3 J6 cg ts := n4.turn fun i b h hi => k6' i b (p5.get h) (.inr (by omega))
  have e9 := eqTs (by omega) ng6.at_ hw6
  obtain ⟨J7, e10, l7, pr7, m7, k7⟩ := mkTs (k := 1) ng6 (by omega) (by omega)
  have k7' : ∀ i b, J6.get i = some b → i < K3.length → J7.get i = some b := fun i b h hi => k7 i b h (fun o h0 e => by
    have h1 := TsNw.lt n4 h0 e
    omega)
  have hw7 : TsAt J7 cw ts := (n2.turn fun i b h _ => k7' i b (nw2 i b h) (by have := get_some_lt h; omega)).at_
  have e11 := heldTs m7 (by omega) (by omega)
  have pH7 : Pre H0 J7 := pr7 H0 (by have := (p02.trans p23).len; omega) (pr6 H0 p02.len (p02.trans (p23.trans p45)))
  obtain ⟨x3, J8, e12, p8, q8, o8⟩ := toH (hA.pre pH7) few
  obtain ⟨cy, J9, e13, p9, n9⟩ := run47 (a := a) (m := m) o8.at_
  rw [q8] at e13 n9
  rw [hcr] at e13 n9
  dsimp only at e13 n9
  have p79 : Pre J7 J9 := p8.trans p9
  have e14' := eqTs (by omega) n9.at_ (hw7.pre p79)
  have e15 := heldTs (m7.pre p79) (by omega) (by omega)
  -- what lies where
  have a1 := p1.get g00
  have a2 := p2.get a1
  have a3 := p3.get a2
  have a4 := p4.get (pk3.get a3)
  have x4 := p4.get gx3
  have a5 := p5.get a4
  have x5 := p5.get x4
  have a6 := k6' _ _ a5 (by omega)
  have a7 := k7' _ _ a6 (by omega)
  have la3 := get_some_lt a3
  have pH : Pre H J9 := pre0.trans (pH7.trans p79)
  have hl0 := hfr_len x0
  have ht0 := hfr_t (h := x0)
  have ho0 := hfr_ok (h := x0)
  have n1 : ¬ (1 + 2 * (x0.xs.length : Int)) < 0 := by omega
  have n2' : ¬ (1 + 4 * (ts.length : Int)) < 0 := by omega
  have fin : ∀ (v : AV), v.plain = true → finish true H v J9 = some (v, H) := fun v hv => finish_pre pH hv
  subst hK3; subst hH0
  clear n2 n4 o1 o3 o5 o8 n9 hw4 hw6 hw7 ng6 hx05 k6 k7 k6' k7' nw2 m6 m7 pr6 pr7 p1 p2 p3 p4 p5 p8 p9 pk3 p02 p23 p45 p79 pH7 pH pre0 hA hA0 gx3 g00 hcr
  obtain ⟨R, hR⟩ : ∃ R, R = hfr x := ⟨_, rfl⟩
  obtain ⟨R0, hR0⟩ : ∃ R, R = hfr x0 := ⟨_, rfl⟩
  rw [show hrow x.st x.p x.xs.length x.cap x.g = hfr x from rfl] at r11
  simp only [b26, hfb, ← hR, ← hR0] at r11 hl htk e1 e3 e4 e6 e7 e8 e12 a1 a2 a3 a4 a5 a6 a7 x4 x5 hl0 ht0 ho0 fin ⊢
  rw [ev_call c9]; unfold k9; rw [evB_eq rfl]
  simp (maxSteps := 4000000) (disch := first | omega | (refine _root_.id ?_; simp only [pl_int, pl_bool, pl_str, pl_undef, pl_nil, pl_ptr, plA_c, plA_agg, plA_tup, plV_c, plV_agg, List.all_cons, List.all_nil, Bool.and_true, Bool.and_self, eq_self, vi_int, vi_bool, get_app, get_app0, List.getElem?_cons_zero, List.getElem?_cons_succ, Option.join_some, lst_get, getL, upd_at, upd_ne, Nat.reduceBEq])) only [evC_skip, evC_ret, evC_region, evC_seq, ev_t, ev_k, putS_some, upd_l, putS_none, ops_nil, ops_consg, guard_bool, evC_condC, cond_bool, ops_cons, next_some, nextD_some, then_norm, done_ret, putL, getL, Option.bind_some, Option.map_some, evalOp, AV.cells?, readCells, writeCells, get_app0, set_app0, List.getElem?_cons_zero, List.getElem?_cons_succ, Option.join_some, List.length_cons, List.length_nil, List.nil_append, Nat.zero_add, Nat.reduceAdd, List.drop_zero, List.drop_succ_cons, List.take_zero, List.drop_nil, ↓reduceIte, reduceCtorEq, binA, binC, intBin, or_false, or_true, evalRs, evalR, AV.toV0?, mkRes, V0.toAV, decide_false, and_self, lst_get, eq_self, Bool.not_true, Bool.false_eq_true, List.map_cons, List.map_nil, List.append_nil, setAt, bne_self_eq_false, List.set_cons_zero, evC_drawn, dr_nil, dr_cons, chk_nil, chk_cons, re_same, unA, hl, htk, Nat.le_refl, r11, hs', e1, e2, a2, e3, hl0, ht0, ho0, e4, a4, x4, e5, e6, x5, e7, e8, n1, e9, e10, n2', a7, e11, e12, e13, e14', e15, fin]
theorem law9 (H : AHeap) (vs : List AV) (h : ArgsOk H [tyHalf, .int .i64, .int .i64] vs) : ∃ H', ev kk 9 vs H = some (.c (.bool true), H') := by
  obtain ⟨_, _, rfl, h1, h2⟩ := h.cons_inv
  obtain ⟨_, _, rfl, h3, h4⟩ := h2.cons_inv
  obtain ⟨_, _, rfl, h5, h6⟩ := h4.cons_inv
  obtain rfl := h6.nil_inv
  obtain ⟨cs, rfl, h0⟩ := h1.agg_inv rfl
  obtain ⟨x, rfl, hx⟩ := hf_inv h0
  obtain ⟨a, rfl, ha⟩ := h3.int_inv
  obtain ⟨m, rfl, hm⟩ := h5.int_inv
  exact ⟨H, run9 hx⟩
end Go.Proofs.Ytnblibimbggheaa
