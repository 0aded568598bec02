/- What functions of the program answer: part FindLaw. -/
import Derived.Test.YtlidldkelkihlaaHalvesInv
import Derived.Test.YtlidldkelkihlaaFind
set_option linter.unusedVariables false
set_option linter.unusedSimpArgs false
set_option linter.unusedSectionVars false
namespace Go.Proofs.Ytlidldkelkihlaa
open Go Go.Proofs.Ytlidldkelkihlaa.VI
set_option maxHeartbeats 16000000
set_option maxRecDepth 20000
theorem fdG_same {s s' : Hf} (h1 : sameH s s') (w : Int) : ∀ {hs ys : List Hf}, SameHs hs ys → ∀ i, fdG s' w ys i = fdG s w hs i
  | [], [], _, _ => rfl
  | [], _ :: _, h, _ => by have := h.1; simp at this
  | _ :: _, [], h, _ => by have := h.1; simp at this
  | h :: hs, y :: ys, e, i => by
    have h0 : sameH h y := e.2 0 (by simp) (by simp)
    have ih := fdG_same h1 w (hs := hs) (ys := ys) ⟨by have := e.1; simpa using this, fun j h1 h2 => by
      have := e.2 (j + 1) (by simpa using h1) (by simpa using h2); simpa using this⟩ (i + 1)
    unfold fdG
    rw [ftB_same h1 h0, ih]
theorem fdR_same {s s' : Hf} {hs ys : List Hf} (h1 : sameH s s') (h2 : SameHs hs ys) (w : Int) : fdR s' ys w = fdR s hs w := by
  unfold fdR fdC
  rw [pcR_same h1 h2, fdG_same h1 w h2, h2.1]
theorem fdR_shape (s : Hf) (hs : List Hf) (w : Int) : ∃ a b, fdR s hs w = .tup [.c (.int .i64 a), .c (.int .i64 b)] := by
  unfold fdR
  split
  · split
    · exact ⟨_, _, rfl⟩
    · exact ⟨_, _, rfl⟩
  · exact ⟨_, _, rfl⟩
theorem lkA {α : Type} {T l : List α} {k : Nat} : (T ++ l)[T.length + k]? = l[k]? := by rw [List.getElem?_append_right (by omega)]; simp
theorem stA {α : Type} {T l : List α} {k : Nat} {a : α} : (T ++ l).set (T.length + k) a = T ++ l.set k a := by rw [List.set_append, if_neg (by omega)]; simp
theorem lkB {α : Type} {T l : List α} {k n : Nat} : (T ++ l)[T.length + n + k]? = l[n + k]? := by rw [Nat.add_assoc]; exact lkA
theorem SameHs.of {hs ys zs : List Hf} (h : SameHs hs ys) (h' : SameHs hs zs) : SameHs ys zs := by
  refine ⟨by rw [h'.1, h.1], fun j h1 h2 => ?_⟩
  have h0 : j < hs.length := by rw [← h.1]; exact h1
  obtain ⟨a1, a2, a3⟩ := h.2 j h0 h1
  obtain ⟨b1, b2, b3⟩ := h'.2 j h0 h2
  exact ⟨by rw [b1, a1], by rw [b2, a2], by rw [b3, a3]⟩
theorem run8 {x : Hf} {p : Option (Nat × Nat)} {cap : Cap} {hs : List Hf} {w : Int} {H : AHeap} (hx : HfIn H x) (hlen : hs.length ≤ 1152921504606846976) (hp : Hfs H p hs) (ha : ∀ h ∈ hs, HfIn H h) : ∃ H', ev kk 8 [.agg (hfr x), .c (.slice p hs.length cap), .c (.int .i64 w)] H = some (.c (.bool true), H') := by
  have r18 := fun T => run18 (p := x.p) (c := x.cap) (l := 1048576) (st := x.st) (g := x.g) hx.few (by omega) (H ++ T)
  by_cases hs' : (1048576 : Int) - x.xs.length < 0
  · simp only [hs', if_true] at r18
    rw [ev_call c8]; unfold k8; rw [evB_eq rfl]
    simp (maxSteps := 4000000) (disch := first | omega | (refine _root_.id ?_; simp only [pl_int, pl_bool, pl_str, pl_undef, pl_nil, pl_ptr, plA_c, plA_agg, plA_tup, plV_c, plV_agg, List.all_cons, List.all_nil, Bool.and_true, Bool.and_self, eq_self, vi_int, vi_bool, get_app, get_app0, List.getElem?_cons_zero, List.getElem?_cons_succ, Option.join_some, lst_get, getL, upd_at, upd_ne, Nat.reduceBEq])) only [evC_skip, evC_exit, evC_ret, evC_region, evC_seq, evC_block, ev_t, ev_k, putS_some, upd_l, putS_none, ops_nil, ops_pick, pick_bool, ops_consg, guard_bool, evC_condC, cond_bool, ops_cons, next_some, next_none, next_ite, nextD_some, nextD_none, nextD_ite, bind_ite, map_ite, then_ite, then_norm, then_ret, then_exit, out_ite, out_norm, out_ret, out_exit, done_ite, done_norm, done_ret, putL, getL, Option.bind_some, Option.map_some, Option.bind_none, Option.map_none, evalOp, AV.cells?, readCells, readCell, writeCells, get_app, get_app0, set_app, set_app0, len_app, List.getElem?_cons_zero, List.getElem?_cons_succ, Option.join_some, List.length_cons, List.length_nil, List.append_assoc, List.cons_append, List.nil_append, Nat.zero_add, Nat.add_zero, Nat.reduceAdd, Nat.reduceLeDiff, Nat.reduceLT, Nat.reduceMul, Nat.reduceSub, List.drop_zero, List.drop_succ_cons, List.take_zero, List.take_succ_cons, List.take_nil, List.drop_nil, if_true, if_false, ite_true, ite_false, ite_self, ↓reduceIte, reduceCtorEq, binA, binC, intBin, or_false, false_or, or_true, true_or, and_true, true_and, Int.reduceLT, Int.reduceLE, Int.reduceToNat, Int.reduceAdd, evalRs, evalR, AV.toV0?, mkRes, V0.toAV, decide_true, decide_false, and_self, Nat.reduceEqDiff, lst_get, Int.cast_ofNat_Int, eq_self, IntWalk.i64_in, IntWalk.i16_in, IntWalk.i32_in, IntWalk.i8_in, IntWalk.u8_in, Int.reduceNeg, finish_app, finish_id, pl_int, pl_bool, pl_str, pl_undef, pl_nil, pl_ptr, plA_c, plA_agg, plA_tup, plV_c, plV_agg, List.all_cons, List.all_nil, Bool.and_true, Bool.true_and, decide_eq_true_eq, decide_eq_false_iff_not, beq_self_eq_true, Bool.not_true, Bool.not_false, Bool.true_eq_false, Bool.false_eq_true, List.map_cons, List.map_nil, List.append_nil, setAt, CV.ok, eqRes, bne_self_eq_false, List.set_cons_zero, List.set_cons_succ, evC_drawn, dr_nil, dr_cons, chk_nil, chk_cons, re_same, unA, Bool.not_eq_true', Bool.not_eq_eq_eq_not, Bool.not_not, Int.zero_add, List.getElem?_nil, partsA, fillC, Int.reduceEq, Int.reduceMul, Int.reduceSub, Int.reduceTDiv, Int.reduceTMod, List.flatten_cons, List.flatten_nil, finish_no, tdiv_pos, tmod_pos, Int.reduceDiv, Int.reduceMod, len_add, vi_int, vi_bool, Int.reduceBNe, Int.reduceBEq, Nat.reduceBEq, Nat.reduceBNe, post_some, post_ite, ite_ex, upd_at, upd_ne, cast_nonneg, cast_toNat, Nat.mul_one, false_implies, true_implies, implies_true, chkg_bool, chk_consg, guard_undef, gl, gt, r18, Nat.le_refl]
    exact ⟨_, rfl⟩
  · simp only [hs', if_false] at r18
    obtain ⟨r, r38, q38⟩ := run38 (cap := cap) (l := 1048576 - x.xs.length) hlen (fun h hh => (ha h hh).few) (by omega) (hp.app [hc 32 x.st x.p x.xs.length x.cap x.g])
    by_cases hr : r < 0
    · rw [ev_call c8]; unfold k8; rw [evB_eq rfl]
      simp (maxSteps := 4000000) (disch := first | omega | (refine _root_.id ?_; simp only [pl_int, pl_bool, pl_str, pl_undef, pl_nil, pl_ptr, plA_c, plA_agg, plA_tup, plV_c, plV_agg, List.all_cons, List.all_nil, Bool.and_true, Bool.and_self, eq_self, vi_int, vi_bool, get_app, get_app0, List.getElem?_cons_zero, List.getElem?_cons_succ, Option.join_some, lst_get, getL, upd_at, upd_ne, Nat.reduceBEq])) only [evC_skip, evC_exit, evC_ret, evC_region, evC_seq, evC_block, ev_t, ev_k, putS_some, upd_l, putS_none, ops_nil, ops_pick, pick_bool, ops_consg, guard_bool, evC_condC, cond_bool, ops_cons, next_some, next_none, next_ite, nextD_some, nextD_none, nextD_ite, bind_ite, map_ite, then_ite, then_norm, then_ret, then_exit, out_ite, out_norm, out_ret, out_exit, done_ite, done_norm, done_ret, putL, getL, Option.bind_some, Option.map_some, Option.bind_none, Option.map_none, evalOp, AV.cells?, readCells, readCell, writeCells, get_app, get_app0, set_app, set_app0, len_app, List.getElem?_cons_zero, List.getElem?_cons_succ, Option.join_some, List.length_cons, List.length_nil, List.append_assoc, List.cons_append, List.nil_append, Nat.zero_add, Nat.add_zero, Nat.reduceAdd, Nat.reduceLeDiff, Nat.reduceLT, Nat.reduceMul, Nat.reduceSub, List.drop_zero, List.drop_succ_cons, List.take_zero, List.take_succ_cons, List.take_nil, List.drop_nil, if_true, if_false, ite_true, ite_false, ite_self, ↓reduceIte, reduceCtorEq, binA, binC, intBin, or_false, false_or, or_true, true_or, and_true, true_and, Int.reduceLT, Int.reduceLE, Int.reduceToNat, Int.reduceAdd, evalRs, evalR, AV.toV0?, mkRes, V0.toAV, decide_true, decide_false, and_self, Nat.reduceEqDiff, lst_get, Int.cast_ofNat_Int, eq_self, IntWalk.i64_in, IntWalk.i16_in, IntWalk.i32_in, IntWalk.i8_in, IntWalk.u8_in, Int.reduceNeg, finish_app, finish_id, pl_int, pl_bool, pl_str, pl_undef, pl_nil, pl_ptr, plA_c, plA_agg, plA_tup, plV_c, plV_agg, List.all_cons, List.all_nil, Bool.and_true, Bool.true_and, decide_eq_true_eq, decide_eq_false_iff_not, beq_self_eq_true, Bool.not_true, Bool.not_false, Bool.true_eq_false, Bool.false_eq_true, List.map_cons, List.map_nil, List.append_nil, setAt, CV.ok, eqRes, bne_self_eq_false, List.set_cons_zero, List.set_cons_succ, evC_drawn, dr_nil, dr_cons, chk_nil, chk_cons, re_same, unA, Bool.not_eq_true', Bool.not_eq_eq_eq_not, Bool.not_not, Int.zero_add, List.getElem?_nil, partsA, fillC, Int.reduceEq, Int.reduceMul, Int.reduceSub, Int.reduceTDiv, Int.reduceTMod, List.flatten_cons, List.flatten_nil, finish_no, tdiv_pos, tmod_pos, Int.reduceDiv, Int.reduceMod, len_add, vi_int, vi_bool, Int.reduceBNe, Int.reduceBEq, Nat.reduceBEq, Nat.reduceBNe, post_some, post_ite, ite_ex, upd_at, upd_ne, cast_nonneg, cast_toNat, Nat.mul_one, false_implies, true_implies, implies_true, chkg_bool, chk_consg, guard_undef, gl, gt, r18, hs', r38, hr, Nat.le_refl]
      exact ⟨_, rfl⟩
    · obtain ⟨hl, hf⟩ := q38 hr
      have hn : x.xs.length ≤ 1048576 := by omega
      have hm : hs.length ≤ 1048576 := by omega
      have hf' : ∀ h ∈ hs, h.xs.length ≤ 1048576 := fun h hh => by have := hf h hh; omega
      have hrr : ∀ h ∈ hs, ∀ z ∈ h.xs, rngN z := fun h hh => (ha h hh).rng
      have r20 : ∀ t, ev kk 20 [.agg (hfr x)] (H ++ t) = _ := fun t => run20 (cap := x.cap) (st := x.st) x.g16 hn (hx.at_.app t)
      have hx1 : ∀ {k : Nat} {t : List (Option Blk)} (_ : t[k]? = some (ncpy x.xs)), HfAt (H ++ t) ⟨x.st, some (H.length + k, 0), .exact x.xs.length, x.xs, x.g, x.g16⟩ := fun h => ⟨by dsimp only; omega, hx.rng, nts_cpyk h⟩
      have f1 : ∀ {k : Nat} {ys : List Hf}, SameHs hs ys → fdR ⟨x.st, some (k, 0), .exact x.xs.length, x.xs, x.g, x.g16⟩ ys w = fdR x hs w := fun {k ys} h => fdR_same (s := x) (s' := ⟨x.st, some (k, 0), .exact x.xs.length, x.xs, x.g, x.g16⟩) ⟨rfl, rfl, rfl⟩ h w
      have e40 : ∀ U, ∃ ys T, _ := fun U => run40 (cap := cap) (H := H ++ U) hm hf' (hp.app U) (fun h hh => (ha h hh).at_.app U)
      have at1 : ∀ {U T : List (Option Blk)} {b : Option Blk} {ys : List Hf}, Copies (H ++ U).length T hs ys hs.length → ∀ y ∈ ys, HfAt (H ++ U ++ b :: T) y := fun k => k.at_ hf' hrr
      have hfs1 : ∀ {U T : List (Option Blk)} {ys : List Hf}, Hfs (H ++ U ++ some ⟨39, hrows ys, .own⟩ :: T) (some ((H ++ U).length, 0)) ys := fun {U T ys} _ => ⟨_, 39, .own, rfl, by rw [get_app0]; rfl⟩
      obtain ⟨U1, hU1⟩ : ∃ U : List (Option Blk), U = hc 32 x.st x.p x.xs.length x.cap x.g :: hlay (H.length + 1) x.st x.p x.cap x.xs x.g := ⟨_, rfl⟩
      obtain ⟨ys1, T1, e1, k1⟩ := e40 U1
      have r39 := run39 (w := w) (p := some ((H ++ U1).length, 0)) (cap := .exact ys1.length) (by have := k1.1; omega) ((hx1 (k := 4) (t := U1) (by subst hU1; rfl)).app _) (hfs1 (U := U1) (T := T1) (ys := ys1)) (at1 k1)
      rw [f1 k1.same] at r39
      obtain ⟨a, b, hab⟩ := fdR_shape x hs w
      simp only [k1.1] at r39
      rw [hab] at r39
      obtain ⟨U2, hU2⟩ : ∃ U : List (Option Blk), U = U1 ++ some ⟨39, hrows ys1, .own⟩ :: T1 ++ hlay (H.length + (T1.length + 6)) x.st x.p x.cap x.xs x.g ++ [hc 39 x.st (some (H.length + (T1.length + 9), 0)) x.xs.length (.exact x.xs.length) x.g] := ⟨_, rfl⟩
      obtain ⟨ys2, T2, e2, k2⟩ := e40 U2
      have r41 := run41 (w := w) (p := some ((H ++ U2).length, 0)) (cap := .exact ys2.length) (s := ⟨x.st, some (H.length + (T1.length + 9), 0), .exact x.xs.length, x.xs, x.g, x.g16⟩) (by have := k2.1; omega) ((hx1 (k := T1.length + 9) (t := U2) (by subst hU2; subst hU1; simp)).app _) (hfs1 (U := U2) (T := T2) (ys := ys2)) (at1 k2)
      rw [f1 k2.same] at r41
      simp only [k2.1] at r41
      rw [hab] at r41
      obtain ⟨U3, hU3⟩ : ∃ U : List (Option Blk), U = U2 ++ some ⟨39, hrows ys2, .own⟩ :: T2 ++ hlay (H.length + (T1.length + (T2.length + 12))) x.st x.p x.cap x.xs x.g := ⟨_, rfl⟩
      have i3 : U3[T1.length + (T2.length + 15)]? = some (ncpy x.xs) := by
        rw [← Nat.add_assoc]; clear r39 r41 e1 e2; subst hU3; subst hU2; subst hU1
        simp only [List.append_assoc, List.cons_append, List.nil_append, List.getElem?_cons_succ, lkA, lkB, List.getElem?_cons_zero]
      have r23 := run23 (xs := x.xs) (cap := .exact x.xs.length) (cap' := .exact x.xs.length) (st := x.st) (g := x.g) x.g16 (by omega) (nts_cpyk (H := H) (k := T1.length + 9) (t := U3) (by clear i3 r39 r41 e1 e2; subst hU3; subst hU2; subst hU1; simp)) (nts_cpyk (H := H) (k := T1.length + (T2.length + 15)) (t := U3) i3)
      obtain ⟨ys3, T3, e3, k3⟩ := e40 U3
      obtain ⟨V, hV⟩ : ∃ V, U3 = U2 ++ some ⟨39, hrows ys2, .own⟩ :: T2 ++ V := ⟨_, hU3⟩
      have r42 := run42 (p := some ((H ++ U2).length, 0)) (cap := .exact ys2.length) (q := some ((H ++ U3).length, 0)) (cap' := .exact ys3.length) (xs := ys2) (ys := ys3) (H := H ++ U3 ++ some ⟨39, hrows ys3, .own⟩ :: T3) (by have := k2.1; omega) (k2.same.of k3.same) (by rw [hV, ← List.append_assoc, ← List.append_assoc]; exact ((hfs1 (U := U2) (T := T2) (ys := ys2)).app V).app _) hfs1 (by rw [hV, ← List.append_assoc, ← List.append_assoc]; exact fun y hy => ((at1 k2 y hy).app V).app _) (at1 k3)
      simp only [k2.1, k3.1] at r42
      rw [ev_call c8]; unfold k8; rw [evB_eq rfl]
      clear hV i3
      subst hU3; subst hU2; subst hU1
      simp only [len_app, List.length_cons, List.length_nil, List.append_assoc, List.cons_append, List.nil_append, Nat.zero_add, Nat.reduceAdd, List.length_append, len_add] at e1 e2 e3 r39 r41 r23 r42 k1 k2 k3
      simp (maxSteps := 4000000) (disch := first | omega | (refine _root_.id ?_; simp only [pl_int, pl_bool, pl_str, pl_undef, pl_nil, pl_ptr, plA_c, plA_agg, plA_tup, plV_c, plV_agg, List.all_cons, List.all_nil, Bool.and_true, Bool.and_self, eq_self, vi_int, vi_bool, get_app, get_app0, List.getElem?_cons_zero, List.getElem?_cons_succ, Option.join_some, lst_get, getL, upd_at, upd_ne, Nat.reduceBEq])) only [evC_skip, evC_exit, evC_ret, evC_region, evC_seq, evC_block, ev_t, ev_k, putS_some, upd_l, putS_none, ops_nil, ops_pick, pick_bool, ops_consg, guard_bool, evC_condC, cond_bool, ops_cons, next_some, next_none, next_ite, nextD_some, nextD_none, nextD_ite, bind_ite, map_ite, then_ite, then_norm, then_ret, then_exit, out_ite, out_norm, out_ret, out_exit, done_ite, done_norm, done_ret, putL, getL, Option.bind_some, Option.map_some, Option.bind_none, Option.map_none, evalOp, AV.cells?, readCells, readCell, writeCells, get_app, get_app0, set_app, set_app0, len_app, List.getElem?_cons_zero, List.getElem?_cons_succ, Option.join_some, List.length_cons, List.length_nil, List.append_assoc, List.cons_append, List.nil_append, Nat.zero_add, Nat.add_zero, Nat.reduceAdd, Nat.reduceLeDiff, Nat.reduceLT, Nat.reduceMul, Nat.reduceSub, List.drop_zero, List.drop_succ_cons, List.take_zero, List.take_succ_cons, List.take_nil, List.drop_nil, if_true, if_false, ite_true, ite_false, ite_self, ↓reduceIte, reduceCtorEq, binA, binC, intBin, or_false, false_or, or_true, true_or, and_true, true_and, Int.reduceLT, Int.reduceLE, Int.reduceToNat, Int.reduceAdd, evalRs, evalR, AV.toV0?, mkRes, V0.toAV, decide_true, decide_false, and_self, Nat.reduceEqDiff, lst_get, Int.cast_ofNat_Int, eq_self, IntWalk.i64_in, IntWalk.i16_in, IntWalk.i32_in, IntWalk.i8_in, IntWalk.u8_in, Int.reduceNeg, finish_app, finish_id, pl_int, pl_bool, pl_str, pl_undef, pl_nil, pl_ptr, plA_c, plA_agg, plA_tup, plV_c, plV_agg, List.all_cons, List.all_nil, Bool.and_true, Bool.true_and, decide_eq_true_eq, decide_eq_false_iff_not, beq_self_eq_true, Bool.not_true, Bool.not_false, Bool.true_eq_false, Bool.false_eq_true, List.map_cons, List.map_nil, List.append_nil, setAt, CV.ok, eqRes, bne_self_eq_false, List.set_cons_zero, List.set_cons_succ, evC_drawn, dr_nil, dr_cons, chk_nil, chk_cons, re_same, unA, Bool.not_eq_true', Bool.not_eq_eq_eq_not, Bool.not_not, Int.zero_add, List.getElem?_nil, partsA, fillC, Int.reduceEq, Int.reduceMul, Int.reduceSub, Int.reduceTDiv, Int.reduceTMod, List.flatten_cons, List.flatten_nil, finish_no, tdiv_pos, tmod_pos, Int.reduceDiv, Int.reduceMod, len_add, vi_int, vi_bool, Int.reduceBNe, Int.reduceBEq, Nat.reduceBEq, Nat.reduceBNe, post_some, post_ite, ite_ex, upd_at, upd_ne, cast_nonneg, cast_toNat, Nat.mul_one, false_implies, true_implies, implies_true, chkg_bool, chk_consg, guard_undef, gl, gt, r18, hs', r38, hr, r20, Nat.le_refl, grow_ok, eqC, e1, r39, e2, r41, lkA, stA, r23, e3, r42]
      exact ⟨_, rfl⟩
theorem law8 (H : AHeap) (vs : List AV) (h : ArgsOk H [tyHalf, tyHalves, .int .i64] vs) : ∃ H', ev kk 8 vs H = some (.c (.bool true), H') := by
  obtain ⟨_, _, rfl, h1, h2⟩ := h.cons_inv
  obtain ⟨_, _, rfl, h3, h4⟩ := h2.cons_inv
  obtain ⟨_, _, rfl, h5, h6⟩ := h4.cons_inv
  obtain rfl := h6.nil_inv
  obtain ⟨cs, rfl, h0⟩ := h1.agg_inv rfl
  obtain ⟨c, elems, rfl, q1, q2, q3⟩ := h3.sl_inv
  obtain ⟨n, rfl, _⟩ := h5.int_inv
  obtain ⟨x, rfl, hx⟩ := hf_inv h0
  obtain ⟨p, cap, hs, rfl, q4, q5, q6⟩ := hfs_inv q1 q2
  exact run8 hx (by omega) q4 q6
end Go.Proofs.Ytlidldkelkihlaa
