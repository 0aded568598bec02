/- What functions of the program answer: part InspectLaw. -/
import Derived.Test.YtlidldkelkihlaaInspect
import Derived.Test.YtlidldkelkihlaaFindLaw
set_option linter.unusedVariables false
set_option linter.unusedSimpArgs false
set_option linter.unusedSectionVars false
namespace Go.Proofs.Ytlidldkelkihlaa
open Go Go.Proofs.Ytlidldkelkihlaa.VI
set_option maxHeartbeats 16000000
set_option maxRecDepth 20000
abbrev hl (L : Nat) (x : Hf) : List (Option Blk) := hlay L x.st x.p x.cap x.xs x.g
abbrev h32 (x : Hf) : Option Blk := hc 32 x.st x.p x.xs.length x.cap x.g
abbrev h39 (k : Nat) (x : Hf) : Option Blk := hc 39 x.st (some (k, 0)) x.xs.length (.exact x.xs.length) x.g
abbrev cp (k : Nat) (x : Hf) : Hf := ⟨x.st, some (k, 0), .exact x.xs.length, x.xs, x.g, x.g16⟩
abbrev v75 (f : Bool) (l a o : Int) (c : CV) : Option Blk := some ⟨75, vC f l a o c, .own⟩
section
variable {x x' y y' : Hf} {w : Int}
theorem inC_cp {i j : Nat} : inC (cp i x) (cp j y) w = inC x y w := by
  have : pcR (cp i x) [cp j y] = pcR x [y] := by unfold pcR; simp [okF, foil]
  unfold inC; rw [this]
theorem inV_cp {i j : Nat} : inV (cp i x) (cp j y) w = inV x y w := by
  unfold inV; rw [inC_cp]; rfl
theorem inW_cp {i j : Nat} : inW (cp i x) (cp j y) w = inW x y w := by
  unfold inW; rw [inC_cp]
theorem inW_len : (inW x y w).length ≤ 16 := by
  unfold inW; split
  · exact wr_len
  · simp
end
theorem Lay.len {K K' : AHeap} {T : List (Option Blk)} {xs : List Int} {c : CV} (h : Lay K T xs c) (e : K'.length = K.length) : Lay K' T xs c := by
  show OutS 2 1 K'.length T xs.length (irow xs) (.c c)
  rw [e]; exact h
theorem lkA0 {α : Type} {T l : List α} : (T ++ l)[T.length]? = l[0]? := lkA (k := 0)
theorem stA0 {α : Type} {T l : List α} {a : α} : (T ++ l).set T.length a = T ++ l.set 0 a := stA (k := 0)
theorem cons2 {α : Type} {a : α} {l : List α} {n m k : Nat} : (a :: l)[n + (m + (k + 1))]? = l[n + (m + k)]? := List.getElem?_cons_succ
theorem setc2 {α : Type} {a b : α} {l : List α} {n m k : Nat} : (a :: l).set (n + (m + (k + 1))) b = a :: l.set (n + (m + k)) b := List.set_cons_succ
theorem run11 {x y : Hf} {w : Int} {H : AHeap} (hx : HfIn H x) (hy : HfIn H y) : ∃ H', ev kk 11 [.agg (hfr x), .agg (hfr y), .c (.int .i64 w)] H = some (.c (.bool true), H') := by
  have r18 := fun T => run18 (p := x.p) (c := x.cap) (l := 1048576) (st := x.st) (g := x.g) hx.few (by omega) (H ++ T)
  by_cases hs' : (1048576 : Int) - x.xs.length < 0
  · simp only [hs', if_true] at r18
    rw [ev_call c11]; unfold k11; rw [evB_eq rfl]
    simp (maxSteps := 4000000) (disch := first | omega | (refine _root_.id ?_; simp only [pl_int, pl_bool, pl_str, pl_undef, pl_nil, pl_ptr, plA_c, plA_agg, plA_tup, plV_c, plV_agg, List.all_cons, List.all_nil, Bool.and_true, Bool.and_self, eq_self, vi_int, vi_bool, get_app, get_app0, List.getElem?_cons_zero, List.getElem?_cons_succ, Option.join_some, lst_get, getL, upd_at, upd_ne, Nat.reduceBEq])) only [evC_skip, evC_exit, evC_ret, evC_region, evC_seq, evC_block, ev_t, ev_k, putS_some, upd_l, putS_none, ops_nil, ops_pick, pick_bool, ops_consg, guard_bool, evC_condC, cond_bool, ops_cons, next_some, next_none, next_ite, nextD_some, nextD_none, nextD_ite, bind_ite, map_ite, then_ite, then_norm, then_ret, then_exit, out_ite, out_norm, out_ret, out_exit, done_ite, done_norm, done_ret, putL, getL, Option.bind_some, Option.map_some, Option.bind_none, Option.map_none, evalOp, AV.cells?, readCells, readCell, writeCells, get_app, get_app0, set_app, set_app0, len_app, List.getElem?_cons_zero, List.getElem?_cons_succ, Option.join_some, List.length_cons, List.length_nil, List.append_assoc, List.cons_append, List.nil_append, Nat.zero_add, Nat.add_zero, Nat.reduceAdd, Nat.reduceLeDiff, Nat.reduceLT, Nat.reduceMul, Nat.reduceSub, List.drop_zero, List.drop_succ_cons, List.take_zero, List.take_succ_cons, List.take_nil, List.drop_nil, if_true, if_false, ite_true, ite_false, ite_self, ↓reduceIte, reduceCtorEq, binA, binC, intBin, or_false, false_or, or_true, true_or, and_true, true_and, Int.reduceLT, Int.reduceLE, Int.reduceToNat, Int.reduceAdd, evalRs, evalR, AV.toV0?, mkRes, V0.toAV, decide_true, decide_false, and_self, Nat.reduceEqDiff, lst_get, Int.cast_ofNat_Int, eq_self, IntWalk.i64_in, IntWalk.i16_in, IntWalk.i32_in, IntWalk.i8_in, IntWalk.u8_in, Int.reduceNeg, finish_app, finish_id, pl_int, pl_bool, pl_str, pl_undef, pl_nil, pl_ptr, plA_c, plA_agg, plA_tup, plV_c, plV_agg, List.all_cons, List.all_nil, Bool.and_true, Bool.true_and, decide_eq_true_eq, decide_eq_false_iff_not, beq_self_eq_true, Bool.not_true, Bool.not_false, Bool.true_eq_false, Bool.false_eq_true, List.map_cons, List.map_nil, List.append_nil, setAt, CV.ok, eqRes, bne_self_eq_false, List.set_cons_zero, List.set_cons_succ, evC_drawn, dr_nil, dr_cons, chk_nil, chk_cons, re_same, unA, Bool.not_eq_true', Bool.not_eq_eq_eq_not, Bool.not_not, Int.zero_add, List.getElem?_nil, partsA, fillC, Int.reduceEq, Int.reduceMul, Int.reduceSub, Int.reduceTDiv, Int.reduceTMod, List.flatten_cons, List.flatten_nil, finish_no, tdiv_pos, tmod_pos, Int.reduceDiv, Int.reduceMod, len_add, vi_int, vi_bool, Int.reduceBNe, Int.reduceBEq, Nat.reduceBEq, Nat.reduceBNe, post_some, post_ite, ite_ex, upd_at, upd_ne, cast_nonneg, cast_toNat, Nat.mul_one, false_implies, true_implies, implies_true, chkg_bool, chk_consg, guard_undef, gl, gt, r18, Nat.le_refl]
    exact ⟨_, rfl⟩
  simp only [hs', if_false] at r18
  have r18' := fun T => run18 (p := y.p) (c := y.cap) (l := 1048576 - x.xs.length) (st := y.st) (g := y.g) hy.few (by omega) (H ++ T)
  by_cases hs2 : (1048576 : Int) - x.xs.length - y.xs.length < 0
  · simp only [hs2, if_true] at r18'
    rw [ev_call c11]; unfold k11; rw [evB_eq rfl]
    simp (maxSteps := 4000000) (disch := first | omega | (refine _root_.id ?_; simp only [pl_int, pl_bool, pl_str, pl_undef, pl_nil, pl_ptr, plA_c, plA_agg, plA_tup, plV_c, plV_agg, List.all_cons, List.all_nil, Bool.and_true, Bool.and_self, eq_self, vi_int, vi_bool, get_app, get_app0, List.getElem?_cons_zero, List.getElem?_cons_succ, Option.join_some, lst_get, getL, upd_at, upd_ne, Nat.reduceBEq])) only [evC_skip, evC_exit, evC_ret, evC_region, evC_seq, evC_block, ev_t, ev_k, putS_some, upd_l, putS_none, ops_nil, ops_pick, pick_bool, ops_consg, guard_bool, evC_condC, cond_bool, ops_cons, next_some, next_none, next_ite, nextD_some, nextD_none, nextD_ite, bind_ite, map_ite, then_ite, then_norm, then_ret, then_exit, out_ite, out_norm, out_ret, out_exit, done_ite, done_norm, done_ret, putL, getL, Option.bind_some, Option.map_some, Option.bind_none, Option.map_none, evalOp, AV.cells?, readCells, readCell, writeCells, get_app, get_app0, set_app, set_app0, len_app, List.getElem?_cons_zero, List.getElem?_cons_succ, Option.join_some, List.length_cons, List.length_nil, List.append_assoc, List.cons_append, List.nil_append, Nat.zero_add, Nat.add_zero, Nat.reduceAdd, Nat.reduceLeDiff, Nat.reduceLT, Nat.reduceMul, Nat.reduceSub, List.drop_zero, List.drop_succ_cons, List.take_zero, List.take_succ_cons, List.take_nil, List.drop_nil, if_true, if_false, ite_true, ite_false, ite_self, ↓reduceIte, reduceCtorEq, binA, binC, intBin, or_false, false_or, or_true, true_or, and_true, true_and, Int.reduceLT, Int.reduceLE, Int.reduceToNat, Int.reduceAdd, evalRs, evalR, AV.toV0?, mkRes, V0.toAV, decide_true, decide_false, and_self, Nat.reduceEqDiff, lst_get, Int.cast_ofNat_Int, eq_self, IntWalk.i64_in, IntWalk.i16_in, IntWalk.i32_in, IntWalk.i8_in, IntWalk.u8_in, Int.reduceNeg, finish_app, finish_id, pl_int, pl_bool, pl_str, pl_undef, pl_nil, pl_ptr, plA_c, plA_agg, plA_tup, plV_c, plV_agg, List.all_cons, List.all_nil, Bool.and_true, Bool.true_and, decide_eq_true_eq, decide_eq_false_iff_not, beq_self_eq_true, Bool.not_true, Bool.not_false, Bool.true_eq_false, Bool.false_eq_true, List.map_cons, List.map_nil, List.append_nil, setAt, CV.ok, eqRes, bne_self_eq_false, List.set_cons_zero, List.set_cons_succ, evC_drawn, dr_nil, dr_cons, chk_nil, chk_cons, re_same, unA, Bool.not_eq_true', Bool.not_eq_eq_eq_not, Bool.not_not, Int.zero_add, List.getElem?_nil, partsA, fillC, Int.reduceEq, Int.reduceMul, Int.reduceSub, Int.reduceTDiv, Int.reduceTMod, List.flatten_cons, List.flatten_nil, finish_no, tdiv_pos, tmod_pos, Int.reduceDiv, Int.reduceMod, len_add, vi_int, vi_bool, Int.reduceBNe, Int.reduceBEq, Nat.reduceBEq, Nat.reduceBNe, post_some, post_ite, ite_ex, upd_at, upd_ne, cast_nonneg, cast_toNat, Nat.mul_one, false_implies, true_implies, implies_true, chkg_bool, chk_consg, guard_undef, gl, gt, r18, hs', r18', Nat.le_refl]
    exact ⟨_, rfl⟩
  simp only [hs2, if_false] at r18'
  have hn : x.xs.length ≤ 1048576 := by omega
  have hm : y.xs.length ≤ 1048576 := by omega
  have r20 : ∀ t, ev kk 20 [.agg (hfr x)] (H ++ t) = _ := fun t => run20 (cap := x.cap) (st := x.st) x.g16 hn (hx.at_.app t)
  have r20' : ∀ t, ev kk 20 [.agg (hfr y)] (H ++ t) = _ := fun t => run20 (cap := y.cap) (st := y.st) y.g16 hm (hy.at_.app t)
  have hx1 : ∀ {k : Nat} {t : List (Option Blk)} (_ : t[k]? = some (ncpy x.xs)), HfAt (H ++ t) (cp (H.length + k) x) := fun h => ⟨by dsimp only; omega, hx.rng, nts_cpyk h⟩
  have hy1 : ∀ {k : Nat} {t : List (Option Blk)} (_ : t[k]? = some (ncpy y.xs)), HfAt (H ++ t) (cp (H.length + k) y) := fun h => ⟨by dsimp only; omega, hy.rng, nts_cpyk h⟩
  obtain ⟨f, l, a, o, hV⟩ := inV_shape x y w
  have hWl := inW_len (x := x) (y := y) (w := w)
  obtain ⟨U1, hU1⟩ : ∃ U : List (Option Blk), U = h32 x :: h32 y :: (hl (H.length + 2) x ++ hl (H.length + 6) y) := ⟨_, rfl⟩
  obtain ⟨T1, c1, e47, L1⟩ := run47 (w := w) (hx1 (k := 5) (t := U1) (by subst hU1; rfl)) (hy1 (k := 9) (t := U1) (by subst hU1; rfl))
  rw [inV_cp, inC_cp, hV] at e47
  rw [inW_cp] at L1
  obtain ⟨q1, p1, hc1⟩ := OutS.isC L1
  injection hc1 with hc1; subst hc1
  obtain ⟨V2, hV2⟩ : ∃ U : List (Option Blk), U = v75 f l a o (.slice q1 (inW x y w).length p1) :: (hl (H.length + (T1.length + 11)) x ++ h39 (H.length + (T1.length + 14)) x :: (hl (H.length + (T1.length + 16)) y ++ [h39 (H.length + (T1.length + 19)) y])) := ⟨_, rfl⟩
  obtain ⟨U2, hU2⟩ : ∃ U, U = U1 ++ (T1 ++ V2) := ⟨_, rfl⟩
  have kx : ∀ W, (U2 ++ W)[T1.length + 14]? = some (ncpy x.xs) := fun W => by subst hU2; subst hV2; subst hU1; simp only [List.append_assoc, List.cons_append, List.nil_append, List.getElem?_cons_succ, lkA, List.getElem?_cons_zero]
  have ky : ∀ W, (U2 ++ W)[T1.length + 19]? = some (ncpy y.xs) := fun W => by subst hU2; subst hV2; subst hU1; simp only [List.append_assoc, List.cons_append, List.nil_append, List.getElem?_cons_succ, lkA, List.getElem?_cons_zero]
  have kx0 := kx []
  have ky0 := ky []
  rw [List.append_nil] at kx0 ky0
  obtain ⟨T2, c2, e48, L2⟩ := run48 (w := w) (hx1 kx0) (hy1 ky0)
  rw [inV_cp, inC_cp, hV] at e48
  rw [inW_cp] at L2
  obtain ⟨q2, p2, hc2⟩ := OutS.isC L2
  injection hc2 with hc2; subst hc2
  have a49 := run49 (f := f) (l := l) (a := a) (o := o) (J := H ++ (U2 ++ (T2 ++ [v75 f l a o (.slice q2 (inW x y w).length p2)]))) L2 L1 (by omega) (U := [v75 f l a o (.slice q2 (inW x y w).length p2)]) (U' := V2 ++ (T2 ++ [v75 f l a o (.slice q2 (inW x y w).length p2)])) (by simp) (by rw [hU2]; simp)
  obtain ⟨V5, hV5⟩ : ∃ U : List (Option Blk), U = v75 f l a o (.slice q2 (inW x y w).length p2) :: (hl (H.length + (T1.length + (T2.length + 22))) x ++ hl (H.length + (T1.length + (T2.length + 26))) y) := ⟨_, rfl⟩
  have e23 := fun {k j : Nat} {t : List (Option Blk)} (h : t[k]? = some (ncpy x.xs)) (h' : t[j]? = some (ncpy x.xs)) => run23 (xs := x.xs) (cap := .exact x.xs.length) (cap' := .exact x.xs.length) (st := x.st) (g := x.g) x.g16 (by omega) (nts_cpyk (H := H) h) (nts_cpyk (H := H) h')
  have e23' := fun {k j : Nat} {t : List (Option Blk)} (h : t[k]? = some (ncpy y.xs)) (h' : t[j]? = some (ncpy y.xs)) => run23 (xs := y.xs) (cap := .exact y.xs.length) (cap' := .exact y.xs.length) (st := y.st) (g := y.g) y.g16 (by omega) (nts_cpyk (H := H) h) (nts_cpyk (H := H) h')
  have len2 : U2.length = T1.length + 21 := by rw [hU2, hV2, hU1]; simp
  have b23 := e23 (kx (T2 ++ (v75 f l a o (.slice q2 (inW x y w).length p2) :: hl (H.length + (T1.length + (T2.length + 22))) x))) (j := T1.length + (T2.length + 25)) (by
    rw [show T1.length + (T2.length + 25) = U2.length + (T2.length + 4) by omega, lkA, lkA]; rfl)
  have b23' := e23' (ky (T2 ++ V5)) (j := T1.length + (T2.length + 29)) (by
    rw [show T1.length + (T2.length + 29) = U2.length + (T2.length + 8) by omega, lkA, lkA, hV5]; rfl)
  obtain ⟨zs, e50⟩ := run50 (st := x.st) (g := x.g) (cap := .exact x.xs.length) (k := 1) (H := H) (by omega) hn (kx (T2 ++ V5))
  have ky2 : ((U2 ++ (T2 ++ V5)).set (T1.length + 14) (ncpy zs))[T1.length + 19]? = some (ncpy y.xs) := by
    rw [List.getElem?_set_ne (by omega)]; exact ky _
  obtain ⟨zs', e50'⟩ := run50 (st := y.st) (g := y.g) (cap := .exact y.xs.length) (k := 1 + 2 * x.xs.length) (H := H) (by omega) hm ky2
  obtain ⟨V2', hV2'⟩ : ∃ U : List (Option Blk), U = v75 f l a o (.slice q1 (inW x y w).length p1) :: (([h32 x, h39 (H.length + (T1.length + 14)) x, h39 (H.length + (T1.length + 14)) x, ncpy zs] ++ h39 (H.length + (T1.length + 14)) x :: ([h32 y, h39 (H.length + (T1.length + 19)) y, h39 (H.length + (T1.length + 19)) y, ncpy zs'] ++ [h39 (H.length + (T1.length + 19)) y]))) := ⟨_, rfl⟩
  obtain ⟨U3, hU3⟩ : ∃ U, U = U1 ++ (T1 ++ V2') := ⟨_, rfl⟩
  have len3 : U3.length = T1.length + 21 := by rw [hU3, hV2', hU1]; simp
  have L3 : Lay (H ++ U3) T2 (inW x y w) (.slice q2 (inW x y w).length p2) := L2.len (by rw [List.length_append, List.length_append, len2, len3])
  have b49 := run49 (f := f) (l := l) (a := a) (o := o) (J := H ++ (U3 ++ (T2 ++ V5))) L3 L1 (by omega) (U := V5) (U' := V2' ++ (T2 ++ V5)) (by simp) (by rw [hU3]; simp)
  obtain ⟨T3, hT3, e51, L4⟩ := run51 (f := f) (l := l) (a := a) (o := o) (U := V5) L3 (by omega)
  have b52 := run52 (f := f) (l := l) (a := a) (o := o) (J := H ++ (U3 ++ (T3 ++ V5))) L4 (by omega) (U := V5) (by simp)
  obtain ⟨V6, hV6⟩ : ∃ U : List (Option Blk), U = V5 ++ (hl (H.length + (T1.length + (T3.length + 30))) x ++ hl (H.length + (T1.length + (T3.length + 34))) y) := ⟨_, rfl⟩
  have kx6 : (U3 ++ (T3 ++ V6))[T1.length + (T3.length + 33)]? = some (ncpy x.xs) := by
    rw [show T1.length + (T3.length + 33) = U3.length + (T3.length + 12) by omega, lkA, lkA, hV6, hV5]; rfl
  have ky6 : (U3 ++ (T3 ++ V6))[T1.length + (T3.length + 37)]? = some (ncpy y.xs) := by
    rw [show T1.length + (T3.length + 37) = U3.length + (T3.length + 16) by omega, lkA, lkA, hV6, hV5]; rfl
  obtain ⟨T4, c4, e48', L5⟩ := run48 (w := w) (hx1 kx6) (hy1 ky6)
  rw [inV_cp, inC_cp, hV] at e48'
  rw [inW_cp] at L5
  obtain ⟨q4, p4, hc4⟩ := OutS.isC L5
  injection hc4 with hc4; subst hc4
  have c49 := run49 (f := f) (l := l) (a := a) (o := o) (J := H ++ (U3 ++ (T3 ++ (V6 ++ (T4 ++ [v75 f l a o (.slice q4 (inW x y w).length p4)]))))) L5 L1 (by omega) (U := [v75 f l a o (.slice q4 (inW x y w).length p4)]) (U' := V2' ++ (T3 ++ (V6 ++ (T4 ++ [v75 f l a o (.slice q4 (inW x y w).length p4)])))) (by simp) (by rw [hU3]; simp)
  have c52 := run52 (f := f) (l := l) (a := a) (o := o) (J := H ++ (U3 ++ (T3 ++ (V6 ++ (T4 ++ [v75 f l a o (.slice q4 (inW x y w).length p4)]))))) L4 (by omega) (U := (V6 ++ (T4 ++ [v75 f l a o (.slice q4 (inW x y w).length p4)]))) (by simp)
  have lk3 : ∀ {l : List (Option Blk)} {k : Nat}, (T3 ++ l)[T2.length + k]? = l[k]? := by intro l k; rw [← hT3]; exact lkA
  have lk30 : ∀ {l : List (Option Blk)}, (T3 ++ l)[T2.length]? = l[0]? := lk3 (k := 0)
  have hnq : ¬ (1 : Int) + (inW x y w).length < 0 := by omega
  have hng : ¬ (1 : Int) + 2 * x.xs.length + 2 * y.xs.length < 0 := by omega
  clear len2 len3 L1 L2 L3 L4 L5 kx ky kx0 ky0 ky2 kx6 ky6
  generalize inC x y w = ic at *
  rw [ev_call c11]; unfold k11; rw [evB_eq rfl]
  subst hV6; subst hU3; subst hV2'; subst hV5; subst hU2; subst hV2; subst hU1
  simp only [len_app, List.length_cons, List.length_nil, List.append_assoc, List.cons_append, List.nil_append, Nat.zero_add, Nat.reduceAdd, List.length_append, len_add, List.set_cons_succ, List.set_cons_zero, stA, stA0] at e47 e48 a49 b23 b23' e50 e50' b49 e51 b52 e48' c49 c52
  simp (maxSteps := 4000000) (disch := first | omega | (refine _root_.id ?_; simp only [pl_int, pl_bool, pl_str, pl_undef, pl_nil, pl_ptr, plA_c, plA_agg, plA_tup, plV_c, plV_agg, List.all_cons, List.all_nil, Bool.and_true, Bool.and_self, eq_self, vi_int, vi_bool, get_app, get_app0, List.getElem?_cons_zero, List.getElem?_cons_succ, Option.join_some, lst_get, getL, upd_at, upd_ne, Nat.reduceBEq])) only [evC_skip, evC_exit, evC_ret, evC_region, evC_seq, evC_block, ev_t, ev_k, putS_some, upd_l, putS_none, ops_nil, ops_pick, pick_bool, ops_consg, guard_bool, evC_condC, cond_bool, ops_cons, next_some, next_none, next_ite, nextD_some, nextD_none, nextD_ite, bind_ite, map_ite, then_ite, then_norm, then_ret, then_exit, out_ite, out_norm, out_ret, out_exit, done_ite, done_norm, done_ret, putL, getL, Option.bind_some, Option.map_some, Option.bind_none, Option.map_none, evalOp, AV.cells?, readCells, readCell, writeCells, get_app, get_app0, set_app, set_app0, len_app, List.getElem?_cons_zero, List.getElem?_cons_succ, Option.join_some, List.length_cons, List.length_nil, List.append_assoc, List.cons_append, List.nil_append, Nat.zero_add, Nat.add_zero, Nat.reduceAdd, Nat.reduceLeDiff, Nat.reduceLT, Nat.reduceMul, Nat.reduceSub, List.drop_zero, List.drop_succ_cons, List.take_zero, List.take_succ_cons, List.take_nil, List.drop_nil, if_true, if_false, ite_true, ite_false, ite_self, ↓reduceIte, reduceCtorEq, binA, binC, intBin, or_false, false_or, or_true, true_or, and_true, true_and, Int.reduceLT, Int.reduceLE, Int.reduceToNat, Int.reduceAdd, evalRs, evalR, AV.toV0?, mkRes, V0.toAV, decide_true, decide_false, and_self, Nat.reduceEqDiff, lst_get, Int.cast_ofNat_Int, eq_self, IntWalk.i64_in, IntWalk.i16_in, IntWalk.i32_in, IntWalk.i8_in, IntWalk.u8_in, Int.reduceNeg, finish_app, finish_id, pl_int, pl_bool, pl_str, pl_undef, pl_nil, pl_ptr, plA_c, plA_agg, plA_tup, plV_c, plV_agg, List.all_cons, List.all_nil, Bool.and_true, Bool.true_and, decide_eq_true_eq, decide_eq_false_iff_not, beq_self_eq_true, Bool.not_true, Bool.not_false, Bool.true_eq_false, Bool.false_eq_true, List.map_cons, List.map_nil, List.append_nil, setAt, CV.ok, eqRes, bne_self_eq_false, List.set_cons_zero, List.set_cons_succ, evC_drawn, dr_nil, dr_cons, chk_nil, chk_cons, re_same, unA, Bool.not_eq_true', Bool.not_eq_eq_eq_not, Bool.not_not, Int.zero_add, List.getElem?_nil, partsA, fillC, Int.reduceEq, Int.reduceMul, Int.reduceSub, Int.reduceTDiv, Int.reduceTMod, List.flatten_cons, List.flatten_nil, finish_no, tdiv_pos, tmod_pos, Int.reduceDiv, Int.reduceMod, len_add, vi_int, vi_bool, Int.reduceBNe, Int.reduceBEq, Nat.reduceBEq, Nat.reduceBNe, post_some, post_ite, ite_ex, upd_at, upd_ne, cast_nonneg, cast_toNat, Nat.mul_one, false_implies, true_implies, implies_true, chkg_bool, chk_consg, guard_undef, gl, gt, r18, hs', r18', hs2, r20, r20', Nat.le_refl, grow_ok, eqC, e47, e48, a49, lkA, stA, lkA0, stA0, b23, b23', e50, e50', b49, e51, b52, e48', c49, c52, cons2, setc2, lk3, lk30, hng, hnq]
  exact ⟨_, rfl⟩
theorem law11 (H : AHeap) (vs : List AV) (h : ArgsOk H [tyHalf, tyHalf, .int .i64] vs) : ∃ H', ev kk 11 vs H = some (.c (.bool true), H') := by
  obtain ⟨_, _, rfl, h1, h2⟩ := h.cons_inv
  obtain ⟨_, _, rfl, h3, h4⟩ := h2.cons_inv
  obtain ⟨_, _, rfl, h5, h6⟩ := h4.cons_inv
  obtain rfl := h6.nil_inv
  obtain ⟨cs, rfl, h0⟩ := h1.agg_inv rfl
  obtain ⟨ds, rfl, h7⟩ := h3.agg_inv rfl
  obtain ⟨n, rfl, _⟩ := h5.int_inv
  obtain ⟨x, rfl, hx⟩ := hf_inv h0
  obtain ⟨y, rfl, hy⟩ := hf_inv h7
  exact run11 hx hy
end Go.Proofs.Ytlidldkelkihlaa
