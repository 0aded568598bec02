/- What functions of the program answer: part WorthLaw. -/
import Derived.Test.YtjpfeofaghnkdaaRateFor
set_option linter.unusedVariables false
set_option linter.unusedSimpArgs false
set_option linter.unusedSectionVars false
namespace Go.Proofs.Ytjpfeofaghnkdaa
open Go Go.Proofs.Ytjpfeofaghnkdaa.VI
set_option maxHeartbeats 16000000
set_option maxRecDepth 20000
theorem isW_ex {a n D d : Int} (ha : 0 ≤ a) : ∃ w, IsW a n d D w := by
  have key : ∀ k : Nat, (k : Int) ≤ a → (∃ w, IsW a n d D w) ∨ (k : Int) + itr k n d D ≤ a := by
    intro k
    induction k with
    | zero => intro _; right; have := itr_zero (n := n) (d := d) (D := D); simp only [Int.natCast_zero]; omega
    | succ k ih =>
      intro hk
      rcases ih (by omega) with h | h
      · exact .inl h
      · by_cases c : ((k + 1 : Nat) : Int) + itr ((k + 1 : Nat) : Int) n d D ≤ a
        · exact .inr c
        · left
          refine ⟨k, ⟨by omega, by omega⟩, h, fun _ => ?_⟩
          have e : ((k + 1 : Nat) : Int) = (k : Int) + 1 := by omega
          rw [e] at c; omega
  rcases key a.toNat (by omega) with h | h
  · exact h
  · have e : (a.toNat : Int) = a := by omega
    rw [e] at h
    exact ⟨a, ⟨ha, Int.le_refl _⟩, h, fun h => by omega⟩
theorem wth_is {a n D d : Int} (h : okR n D) (hd : 0 ≤ d) (ha : 0 ≤ a) : IsW a n d D (wth a n d D) := by
  obtain ⟨w, hw⟩ := isW_ex (n := n) (D := D) (d := d) ha
  rw [isW_eq h hd hw]; exact hw
theorem itr_le {a n D d : Int} (h : okR n D) (hd : 0 ≤ d) (ha : 0 ≤ a) : itr a n d D ≤ a * d / 365 := by
  obtain ⟨⟨D0, D1⟩, n0, n1⟩ := h
  unfold itr
  have h1 : a * n * d ≤ D * (a * d) := by
    have e : a * n * d = n * (a * d) := by rw [Int.mul_comm a n, Int.mul_assoc]
    rw [e]
    exact Int.mul_le_mul_of_nonneg_right n1 (Int.mul_nonneg ha hd)
  have h2 : a * n * d / (D * 365) ≤ D * (a * d) / (D * 365) := Int.ediv_le_ediv (by omega) h1
  rw [Int.mul_ediv_mul_of_pos _ _ (by omega)] at h2
  exact h2
theorem itr_few {a n D d : Int} (h : okR n D) (hd : 0 ≤ d ∧ d ≤ 3000) (ha : 0 ≤ a ∧ a ≤ 60000) : itr a n d D ≤ 500000 := by
  have h1 := itr_le h hd.1 ha.1
  have h2 : a * d ≤ 60000 * 3000 := Int.mul_le_mul ha.2 hd.2 hd.1 (by omega)
  have h3 : a * d / 365 ≤ 180000000 / 365 := Int.ediv_le_ediv (by omega) (by omega)
  omega
theorem told_few {x : Int} (h : x ≤ 100000000) : told x = .tup [.c (.int .i64 x), .c (.int .i64 0)] := by unfold told; rw [if_neg (by omega)]
theorem eq_rates {x y : Int} : eqCells [.int, .int] [.int .i64 x, .int .i64 y] [.int .i64 x, .int .i64 y] = some true := by simp [eqCells, eqC]
theorem run8 {H : AHeap} {cs cs' : CV} {l l' : List Int} (hc : Bts H cs l) (hc' : Bts H cs' l') (hl : ∀ x ∈ l, 0 ≤ x ∧ x ≤ 255) (hl' : ∀ x ∈ l', 0 ≤ x ∧ x ≤ 255) : ev kk 8 [.c cs, .c cs'] H = some (.c (.bool true), H) := by
  have f1 : ev kk 26 [.c cs] H = some (.c (.bool (decide ((4096 : Int) < l.length))), H) := by
    obtain ⟨p, c, rfl⟩ := hc.shape; exact run26
  have f2 : ev kk 26 [.c cs'] H = some (.c (.bool (decide ((4096 : Int) < l'.length))), H) := by
    obtain ⟨p, c, rfl⟩ := hc'.shape; exact run26
  by_cases hb1 : (4096 : Int) < l.length
  · rw [ev_call c8]; unfold k8; rw [evB_eq rfl]
    simp (maxSteps := 4000000) (disch := first | omega | (refine _root_.id ?_; simp only [pl_int, pl_bool, pl_str, pl_undef, pl_nil, pl_ptr, plA_c, plA_agg, plA_tup, plV_c, plV_agg, List.all_cons, List.all_nil, Bool.and_true, Bool.and_self, eq_self, vi_int, vi_bool, get_app, get_app0, List.getElem?_cons_zero, List.getElem?_cons_succ, Option.join_some, lst_get, getL, upd_at, upd_ne, Nat.reduceBEq])) only [evC_skip, evC_exit, evC_ret, evC_region, evC_seq, evC_block, ev_t, ev_k, putS_some, upd_l, putS_none, ops_nil, ops_pick, pick_bool, ops_consg, guard_bool, evC_condC, cond_bool, ops_cons, next_some, next_none, next_ite, nextD_some, nextD_none, nextD_ite, bind_ite, map_ite, then_ite, then_norm, then_ret, then_exit, out_ite, out_norm, out_ret, out_exit, done_ite, done_norm, done_ret, putL, getL, Option.bind_some, Option.map_some, Option.bind_none, Option.map_none, evalOp, AV.cells?, readCells, readCell, writeCells, get_app, get_app0, set_app, set_app0, len_app, List.getElem?_cons_zero, List.getElem?_cons_succ, Option.join_some, List.length_cons, List.length_nil, List.append_assoc, List.cons_append, List.nil_append, Nat.zero_add, Nat.add_zero, Nat.reduceAdd, Nat.reduceLeDiff, Nat.reduceLT, Nat.reduceMul, Nat.reduceSub, List.drop_zero, List.drop_succ_cons, List.take_zero, List.take_succ_cons, List.take_nil, List.drop_nil, if_true, if_false, ite_true, ite_false, ite_self, ↓reduceIte, reduceCtorEq, binA, binC, intBin, or_false, false_or, or_true, true_or, and_true, true_and, Int.reduceLT, Int.reduceLE, Int.reduceToNat, Int.reduceAdd, evalRs, evalR, AV.toV0?, mkRes, V0.toAV, decide_true, decide_false, and_self, Nat.reduceEqDiff, lst_get, Int.cast_ofNat_Int, eq_self, IntWalk.i64_in, IntWalk.i16_in, IntWalk.i32_in, IntWalk.i8_in, IntWalk.u8_in, Int.reduceNeg, finish_app, finish_id, pl_int, pl_bool, pl_str, pl_undef, pl_nil, pl_ptr, plA_c, plA_agg, plA_tup, plV_c, plV_agg, List.all_cons, List.all_nil, Bool.and_true, Bool.true_and, decide_eq_true_eq, decide_eq_false_iff_not, beq_self_eq_true, Bool.not_true, Bool.not_false, Bool.true_eq_false, Bool.false_eq_true, List.map_cons, List.map_nil, List.append_nil, setAt, CV.ok, eqRes, bne_self_eq_false, List.set_cons_zero, List.set_cons_succ, evC_drawn, dr_nil, dr_cons, chk_nil, chk_cons, re_same, unA, Bool.not_eq_true', Bool.not_eq_eq_eq_not, Bool.not_not, Int.zero_add, List.getElem?_nil, partsA, fillC, Int.reduceEq, Int.reduceMul, Int.reduceSub, Int.reduceTDiv, Int.reduceTMod, List.flatten_cons, List.flatten_nil, finish_no, tdiv_pos, tmod_pos, Int.reduceDiv, Int.reduceMod, len_add, vi_int, vi_bool, Int.reduceBNe, Int.reduceBEq, Nat.reduceBEq, Nat.reduceBNe, post_some, post_ite, ite_ex, upd_at, upd_ne, cast_nonneg, cast_toNat, Nat.mul_one, false_implies, true_implies, implies_true, chkg_bool, chk_consg, guard_undef, f1, hb1]
  by_cases hb2 : (4096 : Int) < l'.length
  · rw [ev_call c8]; unfold k8; rw [evB_eq rfl]
    simp (maxSteps := 4000000) (disch := first | omega | (refine _root_.id ?_; simp only [pl_int, pl_bool, pl_str, pl_undef, pl_nil, pl_ptr, plA_c, plA_agg, plA_tup, plV_c, plV_agg, List.all_cons, List.all_nil, Bool.and_true, Bool.and_self, eq_self, vi_int, vi_bool, get_app, get_app0, List.getElem?_cons_zero, List.getElem?_cons_succ, Option.join_some, lst_get, getL, upd_at, upd_ne, Nat.reduceBEq])) only [evC_skip, evC_exit, evC_ret, evC_region, evC_seq, evC_block, ev_t, ev_k, putS_some, upd_l, putS_none, ops_nil, ops_pick, pick_bool, ops_consg, guard_bool, evC_condC, cond_bool, ops_cons, next_some, next_none, next_ite, nextD_some, nextD_none, nextD_ite, bind_ite, map_ite, then_ite, then_norm, then_ret, then_exit, out_ite, out_norm, out_ret, out_exit, done_ite, done_norm, done_ret, putL, getL, Option.bind_some, Option.map_some, Option.bind_none, Option.map_none, evalOp, AV.cells?, readCells, readCell, writeCells, get_app, get_app0, set_app, set_app0, len_app, List.getElem?_cons_zero, List.getElem?_cons_succ, Option.join_some, List.length_cons, List.length_nil, List.append_assoc, List.cons_append, List.nil_append, Nat.zero_add, Nat.add_zero, Nat.reduceAdd, Nat.reduceLeDiff, Nat.reduceLT, Nat.reduceMul, Nat.reduceSub, List.drop_zero, List.drop_succ_cons, List.take_zero, List.take_succ_cons, List.take_nil, List.drop_nil, if_true, if_false, ite_true, ite_false, ite_self, ↓reduceIte, reduceCtorEq, binA, binC, intBin, or_false, false_or, or_true, true_or, and_true, true_and, Int.reduceLT, Int.reduceLE, Int.reduceToNat, Int.reduceAdd, evalRs, evalR, AV.toV0?, mkRes, V0.toAV, decide_true, decide_false, and_self, Nat.reduceEqDiff, lst_get, Int.cast_ofNat_Int, eq_self, IntWalk.i64_in, IntWalk.i16_in, IntWalk.i32_in, IntWalk.i8_in, IntWalk.u8_in, Int.reduceNeg, finish_app, finish_id, pl_int, pl_bool, pl_str, pl_undef, pl_nil, pl_ptr, plA_c, plA_agg, plA_tup, plV_c, plV_agg, List.all_cons, List.all_nil, Bool.and_true, Bool.true_and, decide_eq_true_eq, decide_eq_false_iff_not, beq_self_eq_true, Bool.not_true, Bool.not_false, Bool.true_eq_false, Bool.false_eq_true, List.map_cons, List.map_nil, List.append_nil, setAt, CV.ok, eqRes, bne_self_eq_false, List.set_cons_zero, List.set_cons_succ, evC_drawn, dr_nil, dr_cons, chk_nil, chk_cons, re_same, unA, Bool.not_eq_true', Bool.not_eq_eq_eq_not, Bool.not_not, Int.zero_add, List.getElem?_nil, partsA, fillC, Int.reduceEq, Int.reduceMul, Int.reduceSub, Int.reduceTDiv, Int.reduceTMod, List.flatten_cons, List.flatten_nil, finish_no, tdiv_pos, tmod_pos, Int.reduceDiv, Int.reduceMod, len_add, vi_int, vi_bool, Int.reduceBNe, Int.reduceBEq, Nat.reduceBEq, Nat.reduceBNe, post_some, post_ite, ite_ex, upd_at, upd_ne, cast_nonneg, cast_toNat, Nat.mul_one, false_implies, true_implies, implies_true, chkg_bool, chk_consg, guard_undef, f1, f2, hb1, hb2]
  have p1 := run27 hc hl (n := 60000) (by omega)
  have p2 := run28 hc' hl'
  have p3 := fun T => run27 (hc'.app T) hl' (n := 3000) (by omega)
  have b1 := pkV_b hl 60000 0 0
  have b2 := pkV_b hl' 30 0 0
  have b3 := pkV_b hl' 170 (pkT 30 0) (pkS l' 30 0 0)
  have b4 := pkV_b hl' 3000 0 0
  generalize pkV l 60000 0 0 = a at *
  generalize pkV l' 30 0 0 = n at *
  generalize pkV l' 170 (pkT 30 0) (pkS l' 30 0 0) = D' at *
  generalize pkV l' 3000 0 0 = d at *
  generalize hD : 30 + D' = D at *
  have ha : 0 ≤ a ∧ a < 60000 := by omega
  have hR : okR n D := ⟨by omega, by omega, by omega⟩
  have hd : 0 ≤ d ∧ d < 3000 := by omega
  have p5 := fun T => run27 (hc.app T) hl (n := a / 3 + 1) (by omega)
  have b5 := pkV_b hl (a / 3 + 1) 0 0
  generalize pkV l (a / 3 + 1) 0 0 = b at *
  have hb : 0 ≤ b ∧ b ≤ a / 3 := by omega
  obtain ⟨⟨w0, w1⟩, w2, w3⟩ := wth_is hR hd.1 ha.1
  have hask : ask a n D d = 0 := by unfold ask; rw [if_pos hR, if_pos (by omega), if_pos (by omega)]
  have r14 := run14 a n D d
  have r16 := run16 a n D d
  have r18 := run18 a n D d
  unfold worR at r14 r16
  unfold disR at r18
  rw [hask] at r14 r16 r18
  simp only [if_true] at r14 r16 r18
  generalize wth a n d D = w at *
  have i1 := itr_few hR ⟨hd.1, by omega⟩ (a := w) ⟨w0, by omega⟩
  have i2 := itr_few hR ⟨hd.1, by omega⟩ (a := w + 1) ⟨by omega, by omega⟩
  obtain ⟨_, _, j0, _⟩ := itr_f (a := w) (d := d) ⟨w0, by omega⟩ hR ⟨hd.1, by omega⟩
  obtain ⟨_, _, k0, _⟩ := itr_f (a := w + 1) (d := d) ⟨by omega, by omega⟩ hR ⟨hd.1, by omega⟩
  have hnext : ¬ w + 1 + itr (w + 1) n d D ≤ a := by
    by_cases c : w < a
    · have := w3 c; omega
    · omega
  have r20 := fun T => run20 w n D d (H ++ T) 0
  have r20' := fun T => run20 (w + 1) n D d (H ++ T) 0
  unfold groR at r20 r20'
  have hask1 : ask w n D d = 0 := by unfold ask; rw [if_pos hR, if_pos (by omega), if_pos (by omega)]
  have hask2 : ask (w + 1) n D d = 0 := by unfold ask; rw [if_pos hR, if_pos (by omega), if_pos (by omega)]
  have g1 : told (grw w n D d 0) = .tup [.c (.int .i64 (w + itr w n d D)), .c (.int .i64 0)] := by
    unfold grw; rw [if_pos rfl]; exact told_few (by omega)
  have g2 : told (grw (w + 1) n D d 0) = .tup [.c (.int .i64 (w + 1 + itr (w + 1) n d D)), .c (.int .i64 0)] := by
    unfold grw; rw [if_pos rfl]; exact told_few (by omega)
  rw [hask1, g1] at r20
  rw [hask2, g2] at r20'
  have z0 : (0 : Int) ≤ 0 ∧ (0 : Int) ≤ 40000 := by omega
  simp only [if_true, z0, and_self] at r20 r20'
  have hmore : ¬ a < w + itr w n d D := by omega
  have q29 := fun T => run29 (a := a) (paid := a + b) (d := d) ⟨ha.1, by omega⟩ (by omega) (by omega) (H ++ T)
  have r30 := fun T => run30 (a := a) (paid := a + b) (d := d) ⟨ha.1, by omega⟩ (by omega) (by omega) (H ++ T)
  have r29 := fun T => (q29 T).2
  obtain ⟨⟨F0, F1⟩, F2, F3⟩ := (q29 []).1
  unfold rfR at r29 r30
  generalize itr w n d D = s1 at *
  generalize itr (w + 1) n d D = s2 at *
  generalize rtf a (a + b) d = F at *
  by_cases hF : F ≤ 1000
  · have hRF : okR F 1000 := ⟨by omega, by omega, by omega⟩
    have t1 := itr_few hRF ⟨hd.1, by omega⟩ (a := a) ⟨ha.1, by omega⟩
    obtain ⟨_, _, t0, _⟩ := itr_f (a := a) (d := d) ⟨ha.1, by omega⟩ hRF ⟨hd.1, by omega⟩
    have r31 := fun T => run31 (a := a) (d := d) ⟨ha.1, by omega⟩ hRF ⟨hd.1, by omega⟩ (H ++ T)
    rw [told_few (by omega)] at r31
    have hen : ¬ a + itr a F d 1000 < a + b := by have := F2 hF; unfold enR at this; omega
    simp only [if_pos hF] at r29 r30
    by_cases hz : F = 0
    · have e0 : itr a F d 1000 = 0 := by rw [hz]; unfold itr; simp
      have hzb : (F == 0) = true := by simpa using hz
      have hb0 : b = 0 := by omega
      subst hb0
      simp only [Int.add_zero] at r29 r30 hen
      rw [ev_call c8]; unfold k8; rw [evB_eq rfl]
      simp (maxSteps := 4000000) (disch := first | omega | (refine _root_.id ?_; simp only [pl_int, pl_bool, pl_str, pl_undef, pl_nil, pl_ptr, plA_c, plA_agg, plA_tup, plV_c, plV_agg, List.all_cons, List.all_nil, Bool.and_true, Bool.and_self, eq_self, vi_int, vi_bool, get_app, get_app0, List.getElem?_cons_zero, List.getElem?_cons_succ, Option.join_some, lst_get, getL, upd_at, upd_ne, Nat.reduceBEq])) only [evC_skip, evC_exit, evC_ret, evC_region, evC_seq, evC_block, ev_t, ev_k, putS_some, upd_l, putS_none, ops_nil, ops_pick, pick_bool, ops_consg, guard_bool, evC_condC, cond_bool, ops_cons, next_some, next_none, next_ite, nextD_some, nextD_none, nextD_ite, bind_ite, map_ite, then_ite, then_norm, then_ret, then_exit, out_ite, out_norm, out_ret, out_exit, done_ite, done_norm, done_ret, putL, getL, Option.bind_some, Option.map_some, Option.bind_none, Option.map_none, evalOp, AV.cells?, readCells, readCell, writeCells, get_app, get_app0, set_app, set_app0, len_app, List.getElem?_cons_zero, List.getElem?_cons_succ, Option.join_some, List.length_cons, List.length_nil, List.append_assoc, List.cons_append, List.nil_append, Nat.zero_add, Nat.add_zero, Nat.reduceAdd, Nat.reduceLeDiff, Nat.reduceLT, Nat.reduceMul, Nat.reduceSub, List.drop_zero, List.drop_succ_cons, List.take_zero, List.take_succ_cons, List.take_nil, List.drop_nil, if_true, if_false, ite_true, ite_false, ite_self, ↓reduceIte, reduceCtorEq, binA, binC, intBin, or_false, false_or, or_true, true_or, and_true, true_and, Int.reduceLT, Int.reduceLE, Int.reduceToNat, Int.reduceAdd, evalRs, evalR, AV.toV0?, mkRes, V0.toAV, decide_true, decide_false, and_self, Nat.reduceEqDiff, lst_get, Int.cast_ofNat_Int, eq_self, IntWalk.i64_in, IntWalk.i16_in, IntWalk.i32_in, IntWalk.i8_in, IntWalk.u8_in, Int.reduceNeg, finish_app, finish_id, pl_int, pl_bool, pl_str, pl_undef, pl_nil, pl_ptr, plA_c, plA_agg, plA_tup, plV_c, plV_agg, List.all_cons, List.all_nil, Bool.and_true, Bool.true_and, decide_eq_true_eq, decide_eq_false_iff_not, beq_self_eq_true, Bool.not_true, Bool.not_false, Bool.true_eq_false, Bool.false_eq_true, List.map_cons, List.map_nil, List.append_nil, setAt, CV.ok, eqRes, bne_self_eq_false, List.set_cons_zero, List.set_cons_succ, evC_drawn, dr_nil, dr_cons, chk_nil, chk_cons, re_same, unA, Bool.not_eq_true', Bool.not_eq_eq_eq_not, Bool.not_not, Int.zero_add, List.getElem?_nil, partsA, fillC, Int.reduceEq, Int.reduceMul, Int.reduceSub, Int.reduceTDiv, Int.reduceTMod, List.flatten_cons, List.flatten_nil, finish_no, tdiv_pos, tmod_pos, Int.reduceDiv, Int.reduceMod, len_add, vi_int, vi_bool, Int.reduceBNe, Int.reduceBEq, Nat.reduceBEq, Nat.reduceBNe, post_some, post_ite, ite_ex, upd_at, upd_ne, cast_nonneg, cast_toNat, Nat.mul_one, false_implies, true_implies, implies_true, chkg_bool, chk_consg, guard_undef, f1, f2, hb1, hb2, p1, p2, p3, hD, r14, r16, r18, r20, r20', hmore, hnext, p5, eq_rates, r29, r30, r31, hen, hzb, Int.add_zero]
    · have hzb : (F == 0) = false := by simpa using hz
      have hRG : okR (F - 1) 1000 := ⟨by omega, by omega, by omega⟩
      have u1 := itr_few hRG ⟨hd.1, by omega⟩ (a := a) ⟨ha.1, by omega⟩
      obtain ⟨_, _, u0, _⟩ := itr_f (a := a) (d := d) ⟨ha.1, by omega⟩ hRG ⟨hd.1, by omega⟩
      have r31' := fun T => run31 (a := a) (d := d) ⟨ha.1, by omega⟩ hRG ⟨hd.1, by omega⟩ (H ++ T)
      rw [told_few (by omega)] at r31'
      have hfew : a + itr a (F - 1) d 1000 < a + b := by have := F3 (F - 1) (by omega) (by omega); unfold enR at this; omega
      rw [ev_call c8]; unfold k8; rw [evB_eq rfl]
      simp (maxSteps := 4000000) (disch := first | omega | (refine _root_.id ?_; simp only [pl_int, pl_bool, pl_str, pl_undef, pl_nil, pl_ptr, plA_c, plA_agg, plA_tup, plV_c, plV_agg, List.all_cons, List.all_nil, Bool.and_true, Bool.and_self, eq_self, vi_int, vi_bool, get_app, get_app0, List.getElem?_cons_zero, List.getElem?_cons_succ, Option.join_some, lst_get, getL, upd_at, upd_ne, Nat.reduceBEq])) only [evC_skip, evC_exit, evC_ret, evC_region, evC_seq, evC_block, ev_t, ev_k, putS_some, upd_l, putS_none, ops_nil, ops_pick, pick_bool, ops_consg, guard_bool, evC_condC, cond_bool, ops_cons, next_some, next_none, next_ite, nextD_some, nextD_none, nextD_ite, bind_ite, map_ite, then_ite, then_norm, then_ret, then_exit, out_ite, out_norm, out_ret, out_exit, done_ite, done_norm, done_ret, putL, getL, Option.bind_some, Option.map_some, Option.bind_none, Option.map_none, evalOp, AV.cells?, readCells, readCell, writeCells, get_app, get_app0, set_app, set_app0, len_app, List.getElem?_cons_zero, List.getElem?_cons_succ, Option.join_some, List.length_cons, List.length_nil, List.append_assoc, List.cons_append, List.nil_append, Nat.zero_add, Nat.add_zero, Nat.reduceAdd, Nat.reduceLeDiff, Nat.reduceLT, Nat.reduceMul, Nat.reduceSub, List.drop_zero, List.drop_succ_cons, List.take_zero, List.take_succ_cons, List.take_nil, List.drop_nil, if_true, if_false, ite_true, ite_false, ite_self, ↓reduceIte, reduceCtorEq, binA, binC, intBin, or_false, false_or, or_true, true_or, and_true, true_and, Int.reduceLT, Int.reduceLE, Int.reduceToNat, Int.reduceAdd, evalRs, evalR, AV.toV0?, mkRes, V0.toAV, decide_true, decide_false, and_self, Nat.reduceEqDiff, lst_get, Int.cast_ofNat_Int, eq_self, IntWalk.i64_in, IntWalk.i16_in, IntWalk.i32_in, IntWalk.i8_in, IntWalk.u8_in, Int.reduceNeg, finish_app, finish_id, pl_int, pl_bool, pl_str, pl_undef, pl_nil, pl_ptr, plA_c, plA_agg, plA_tup, plV_c, plV_agg, List.all_cons, List.all_nil, Bool.and_true, Bool.true_and, decide_eq_true_eq, decide_eq_false_iff_not, beq_self_eq_true, Bool.not_true, Bool.not_false, Bool.true_eq_false, Bool.false_eq_true, List.map_cons, List.map_nil, List.append_nil, setAt, CV.ok, eqRes, bne_self_eq_false, List.set_cons_zero, List.set_cons_succ, evC_drawn, dr_nil, dr_cons, chk_nil, chk_cons, re_same, unA, Bool.not_eq_true', Bool.not_eq_eq_eq_not, Bool.not_not, Int.zero_add, List.getElem?_nil, partsA, fillC, Int.reduceEq, Int.reduceMul, Int.reduceSub, Int.reduceTDiv, Int.reduceTMod, List.flatten_cons, List.flatten_nil, finish_no, tdiv_pos, tmod_pos, Int.reduceDiv, Int.reduceMod, len_add, vi_int, vi_bool, Int.reduceBNe, Int.reduceBEq, Nat.reduceBEq, Nat.reduceBNe, post_some, post_ite, ite_ex, upd_at, upd_ne, cast_nonneg, cast_toNat, Nat.mul_one, false_implies, true_implies, implies_true, chkg_bool, chk_consg, guard_undef, f1, f2, hb1, hb2, p1, p2, p3, hD, r14, r16, r18, r20, r20', hmore, hnext, p5, eq_rates, r29, r30, r31, hen, hzb, r31', hfew]
  · simp only [if_neg hF] at r29 r30
    rw [ev_call c8]; unfold k8; rw [evB_eq rfl]
    simp (maxSteps := 4000000) (disch := first | omega | (refine _root_.id ?_; simp only [pl_int, pl_bool, pl_str, pl_undef, pl_nil, pl_ptr, plA_c, plA_agg, plA_tup, plV_c, plV_agg, List.all_cons, List.all_nil, Bool.and_true, Bool.and_self, eq_self, vi_int, vi_bool, get_app, get_app0, List.getElem?_cons_zero, List.getElem?_cons_succ, Option.join_some, lst_get, getL, upd_at, upd_ne, Nat.reduceBEq])) only [evC_skip, evC_exit, evC_ret, evC_region, evC_seq, evC_block, ev_t, ev_k, putS_some, upd_l, putS_none, ops_nil, ops_pick, pick_bool, ops_consg, guard_bool, evC_condC, cond_bool, ops_cons, next_some, next_none, next_ite, nextD_some, nextD_none, nextD_ite, bind_ite, map_ite, then_ite, then_norm, then_ret, then_exit, out_ite, out_norm, out_ret, out_exit, done_ite, done_norm, done_ret, putL, getL, Option.bind_some, Option.map_some, Option.bind_none, Option.map_none, evalOp, AV.cells?, readCells, readCell, writeCells, get_app, get_app0, set_app, set_app0, len_app, List.getElem?_cons_zero, List.getElem?_cons_succ, Option.join_some, List.length_cons, List.length_nil, List.append_assoc, List.cons_append, List.nil_append, Nat.zero_add, Nat.add_zero, Nat.reduceAdd, Nat.reduceLeDiff, Nat.reduceLT, Nat.reduceMul, Nat.reduceSub, List.drop_zero, List.drop_succ_cons, List.take_zero, List.take_succ_cons, List.take_nil, List.drop_nil, if_true, if_false, ite_true, ite_false, ite_self, ↓reduceIte, reduceCtorEq, binA, binC, intBin, or_false, false_or, or_true, true_or, and_true, true_and, Int.reduceLT, Int.reduceLE, Int.reduceToNat, Int.reduceAdd, evalRs, evalR, AV.toV0?, mkRes, V0.toAV, decide_true, decide_false, and_self, Nat.reduceEqDiff, lst_get, Int.cast_ofNat_Int, eq_self, IntWalk.i64_in, IntWalk.i16_in, IntWalk.i32_in, IntWalk.i8_in, IntWalk.u8_in, Int.reduceNeg, finish_app, finish_id, pl_int, pl_bool, pl_str, pl_undef, pl_nil, pl_ptr, plA_c, plA_agg, plA_tup, plV_c, plV_agg, List.all_cons, List.all_nil, Bool.and_true, Bool.true_and, decide_eq_true_eq, decide_eq_false_iff_not, beq_self_eq_true, Bool.not_true, Bool.not_false, Bool.true_eq_false, Bool.false_eq_true, List.map_cons, List.map_nil, List.append_nil, setAt, CV.ok, eqRes, bne_self_eq_false, List.set_cons_zero, List.set_cons_succ, evC_drawn, dr_nil, dr_cons, chk_nil, chk_cons, re_same, unA, Bool.not_eq_true', Bool.not_eq_eq_eq_not, Bool.not_not, Int.zero_add, List.getElem?_nil, partsA, fillC, Int.reduceEq, Int.reduceMul, Int.reduceSub, Int.reduceTDiv, Int.reduceTMod, List.flatten_cons, List.flatten_nil, finish_no, tdiv_pos, tmod_pos, Int.reduceDiv, Int.reduceMod, len_add, vi_int, vi_bool, Int.reduceBNe, Int.reduceBEq, Nat.reduceBEq, Nat.reduceBNe, post_some, post_ite, ite_ex, upd_at, upd_ne, cast_nonneg, cast_toNat, Nat.mul_one, false_implies, true_implies, implies_true, chkg_bool, chk_consg, guard_undef, f1, f2, hb1, hb2, p1, p2, p3, hD, r14, r16, r18, r20, r20', hmore, hnext, p5, eq_rates, r29, r30]
theorem law8 (H : AHeap) (vs : List AV) (h : ArgsOk H [.sl 1 1 (.int .u8), .sl 1 1 (.int .u8)] vs) : ∃ H', ev kk 8 vs H = some (.c (.bool true), H') := by
  obtain ⟨a, vs0, rfl, h1, h2⟩ := h.cons_inv
  obtain ⟨a', vs1, rfl, h3, h4⟩ := h2.cons_inv
  obtain rfl := h4.nil_inv
  obtain ⟨c, elems, rfl, h5, h6, _⟩ := h1.sl_inv
  obtain ⟨c', elems', rfl, h7, h8, _⟩ := h3.sl_inv
  obtain ⟨l, hb, hl⟩ := bts_inv h5 h6
  obtain ⟨l', hb', hl'⟩ := bts_inv h7 h8
  exact ⟨H, run8 hb hb' hl hl'⟩
end Go.Proofs.Ytjpfeofaghnkdaa
