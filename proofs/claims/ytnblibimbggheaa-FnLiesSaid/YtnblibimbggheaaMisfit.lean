/- What functions of the program answer: part Misfit. -/
import Derived.Test.YtnblibimbggheaaSlices
import Derived.Test.YtnblibimbggheaaFind
set_option linter.unusedVariables false
set_option linter.unusedSimpArgs false
set_option linter.unusedSectionVars false
namespace Go.Proofs.Ytnblibimbggheaa
open Go Go.Proofs.Ytnblibimbggheaa.VI
set_option maxHeartbeats 16000000
set_option maxRecDepth 20000
/-! Notches that do not fit -/
def mq (xs ys : List Nt) (i : Nat) : Bool := match xs[i]?, ys[i]? with
  | some x, some y => !(x.k == y.k && x.a == y.a)
  | _, _ => true
def mr (xs ys : List Nt) (i n : Nat) : List Int := ((List.range' i n).filter (mq xs ys)).map fun j : Nat => (j : Int)
theorem mr_step {xs ys : List Nt} {i n : Nat} : mr xs ys i (n + 1) = if mq xs ys i = true then (i : Int) :: mr xs ys (i + 1) n else mr xs ys (i + 1) n := by
  unfold mr
  rw [List.range'_succ, List.filter_cons]
  split <;> simp
theorem mr_len {xs ys : List Nt} {i n : Nat} : (mr xs ys i n).length ≤ n := by
  unfold mr
  rw [List.length_map]
  exact Nat.le_trans (List.length_filter_le _ _) (by simp)
theorem mq_in {xs ys : List Nt} {i : Nat} (hi : i < xs.length) (hj : i < ys.length) : mq xs ys i = !((xs[i]'hi).k == (ys[i]'hj).k && (xs[i]'hi).a == (ys[i]'hj).a) := by
  unfold mq; rw [List.getElem?_eq_getElem hi, List.getElem?_eq_getElem hj]
theorem mq_out {xs ys : List Nt} {i : Nat} (h : ¬ (i < xs.length ∧ i < ys.length)) : mq xs ys i = true := by
  unfold mq
  by_cases hi : i < xs.length
  · have hj : ys.length ≤ i := by omega
    rw [List.getElem?_eq_none hj]
    cases xs[i]? <;> rfl
  · have hi : xs.length ≤ i := by omega
    rw [List.getElem?_eq_none hi]
theorem outS_one {L : Nat} {T : List (Option Blk)} {ws : List Int} {v : AV} (h : OutS 2 1 L T ws.length (irow ws) v) (i : Int) : OutS 2 1 L (T ++ [some ⟨2, [.int .i64 i], .own⟩]) ws.length (irow ws) v := OutS.more h
theorem loop81_0 {p q : Option (Nat × Nat)} {cap cap' : Cap} {xs ys : List Nt} (hlen : xs.length ≤ 4398046511104) (hlen' : ys.length ≤ 4398046511104) {H : AHeap} (hp : Nts H p xs) (hq : Nts H q ys) : ∀ (n i : Nat) (_ : i + n = max xs.length ys.length) (ws : List Int) (_ : ws.length ≤ i) (T : List (Option Blk)) (v : AV) (_ : OutS 2 1 H.length T ws.length (irow ws) v) (σ : Sl) (_ : σ 5 = v) (_ : σ 6 = .c (.slice p xs.length cap)) (_ : σ 7 = .c (.slice q ys.length cap')) (_ : σ 18 = .c (.int .i64 ((max xs.length ys.length : Nat) : Int))) (_ : σ 19 = .c (.int .i64 i)),
    Post (evC (ev kk) (.loop l81_0) (σ, H ++ T)) fun ex σ' H' => ex = .exit 0 ∧ (∃ T', H' = H ++ T' ∧ OutS 2 1 H.length T' (ws ++ mr xs ys i n).length (irow (ws ++ mr xs ys i n)) (σ' 5))
  | 0, i, hi, ws, hw, T, v, ho, σ, h5, h6, h7, h18, h19 => by
    have hge : ¬ ((i : Int) < ((max xs.length ys.length : Nat) : Int)) := by omega
    have e : mr xs ys i 0 = [] := rfl
    rw [evC_loop, e, List.append_nil]
    generalize ((max xs.length ys.length : Nat) : Int) = mx at *
    simp only [evC_exit, evC_region, evC_seq, ev_t, putS_some, ops_nil, evC_condC, cond_bool, ops_cons, next_some, then_norm, then_exit, Option.map_some, evalOp, ↓reduceIte, reduceCtorEq, binA, binC, intBin, or_false, or_true, true_and, decide_false, eq_self, Bool.false_eq_true, Nat.reduceBEq, post_some, upd_at, upd_ne, l81_0, h5, h18, h19, hge]
    exact ⟨T, rfl, ho⟩
  | n + 1, i, hi, ws, hw, T, v, ho, σ, h5, h6, h7, h18, h19 => by
    obtain ⟨v', T', happ, ho'⟩ := (outS_one ho i).step (bytes := 8) (j := H.length + T.length) (m := 1) (cs := [.int .i64 i]) (t := 2) (bm := .own) (cap := .exact 1) (by rw [get_app]; simp) (by omega) rfl (by omega) rfl
    have e4 : irow (ws ++ [(i : Int)]) = irow ws ++ [.int .i64 i] := by simp [irow]
    have e5 : (ws ++ [(i : Int)]).length = ws.length + 1 := by simp
    rw [← e4, ← e5] at ho'
    have stepA := loop81_0 (cap := cap) (cap' := cap') hlen hlen' hp hq n (i + 1) (by omega) (ws ++ [(i : Int)]) (by rw [e5]; omega) T' v' ho'
    have e3 : ws ++ (i : Int) :: mr xs ys (i + 1) n = (ws ++ [(i : Int)]) ++ mr xs ys (i + 1) n := by simp
    have stepB := loop81_0 (cap := cap) (cap' := cap') hlen hlen' hp hq n (i + 1) (by omega) ws (by omega) T v ho
    have hmx : ((i : Int) < ((max xs.length ys.length : Nat) : Int)) := by omega
    rw [evC_loop, mr_step]
    generalize ((max xs.length ys.length : Nat) : Int) = mx at *
    by_cases a1 : i < xs.length
    · have b1' : ¬ ((xs.length : Int) ≤ i) := by omega
      by_cases a2 : i < ys.length
      · have b1 : (i : Int) < xs.length := by omega
        have b2 : (i : Int) < ys.length := by omega
        have b2' : ¬ ((ys.length : Int) ≤ i) := by omega
        obtain ⟨id, t, m, rfl, hb⟩ := hp (by omega)
        obtain ⟨id', t', m', rfl, hb'⟩ := hq (by omega)
        have hbl := get_some_lt hb
        have hbl' := get_some_lt hb'
        have hle : i * 2 + 2 ≤ (nrows xs).length := by rw [nrowl]; omega
        have hle' : i * 2 + 2 ≤ (nrows ys).length := by rw [nrowl]; omega
        have hc := nrc a1
        have hc' := nrc a2
        have hm := mq_in a1 a2
        generalize xs[i]'a1 = x at *
        generalize ys[i]'a2 = y at *
        cases hE : (x.k == y.k && x.a == y.a)
        · rw [hE] at hm
          simp only [hm, if_true, Bool.not_false, e3]
          simp (maxSteps := 4000000) (disch := first | omega | (refine _root_.id ?_; simp only [pl_int, pl_bool, pl_str, pl_undef, pl_nil, pl_ptr, plA_c, plA_agg, plA_tup, plV_c, plV_agg, List.all_cons, List.all_nil, Bool.and_true, Bool.and_self, eq_self, vi_int, vi_bool, get_app, get_app0, List.getElem?_cons_zero, List.getElem?_cons_succ, Option.join_some, lst_get, getL, upd_at, upd_ne, Nat.reduceBEq])) only [evC_skip, evC_region, evC_seq, evC_block, ev_t, ev_k, putS_some, ops_nil, ops_consg, guard_bool, evC_condC, cond_bool, ops_cons, next_some, nextD_some, then_norm, out_norm, Option.map_some, evalOp, AV.cells?, readCells, len_app, List.length_cons, List.length_nil, List.append_assoc, List.cons_append, List.nil_append, Nat.zero_add, Nat.reduceLeDiff, List.drop_succ_cons, List.take_zero, List.drop_nil, ↓reduceIte, reduceCtorEq, binA, binC, intBin, or_false, or_true, decide_true, decide_false, and_self, eq_self, IntWalk.i64_in, Bool.not_false, Bool.false_eq_true, List.append_nil, setAt, eqRes, evC_drawn, dr_nil, dr_cons, chk_nil, partsA, fillC, upd_at, upd_ne, cast_nonneg, cast_toNat, l81_0, h5, h6, h7, h18, h19, hmx, b1, b2, b1', b2', get_appl hbl, get_appl hbl', hb, hb', hle, hle', hc, hc', eq_nots, hE, happ]
          exact Post.mono (stepA _ (by simp only [upd_at, upd_ne, Nat.reduceBEq]) (by simp only [upd_ne, Nat.reduceBEq, h6]) (by simp only [upd_ne, Nat.reduceBEq, h7]) (by simp only [upd_ne, Nat.reduceBEq, h18]) (by simp only [upd_at]; rfl)) (fun ex σ' H' q => ⟨q.1, by rw [e3]; exact q.2⟩)
        · rw [hE] at hm
          simp only [hm, Bool.not_true, Bool.false_eq_true, if_false]
          simp (maxSteps := 4000000) (disch := first | omega | (refine _root_.id ?_; simp only [pl_int, pl_bool, pl_str, pl_undef, pl_nil, pl_ptr, plA_c, plA_agg, plA_tup, plV_c, plV_agg, List.all_cons, List.all_nil, Bool.and_true, Bool.and_self, eq_self, vi_int, vi_bool, get_app, get_app0, List.getElem?_cons_zero, List.getElem?_cons_succ, Option.join_some, lst_get, getL, upd_at, upd_ne, Nat.reduceBEq])) only [evC_skip, evC_region, evC_seq, evC_block, ev_t, ev_k, putS_some, ops_nil, ops_consg, guard_bool, evC_condC, cond_bool, ops_cons, next_some, nextD_some, then_norm, out_norm, Option.map_some, evalOp, readCells, Nat.zero_add, ↓reduceIte, reduceCtorEq, binA, binC, intBin, or_false, or_true, decide_true, decide_false, and_self, eq_self, IntWalk.i64_in, Bool.not_true, Bool.false_eq_true, eqRes, evC_drawn, dr_nil, dr_cons, chk_nil, upd_at, upd_ne, cast_nonneg, cast_toNat, l81_0, h6, h7, h18, h19, hmx, b1, b2, b1', b2', get_appl hbl, get_appl hbl', hb, hb', hle, hle', hc, hc', eq_nots, hE]
          exact stepB _ (by simp only [upd_ne, Nat.reduceBEq, h5]) (by simp only [upd_ne, Nat.reduceBEq, h6]) (by simp only [upd_ne, Nat.reduceBEq, h7]) (by simp only [upd_ne, Nat.reduceBEq, h18]) (by simp only [upd_at]; rfl)
      · have b2' : ((ys.length : Int) ≤ i) := by omega
        have hm := mq_out (xs := xs) (ys := ys) (i := i) (by omega)
        simp only [hm, if_true, e3]
        simp (maxSteps := 4000000) (disch := first | omega | (refine _root_.id ?_; simp only [pl_int, pl_bool, pl_str, pl_undef, pl_nil, pl_ptr, plA_c, plA_agg, plA_tup, plV_c, plV_agg, List.all_cons, List.all_nil, Bool.and_true, Bool.and_self, eq_self, vi_int, vi_bool, get_app, get_app0, List.getElem?_cons_zero, List.getElem?_cons_succ, Option.join_some, lst_get, getL, upd_at, upd_ne, Nat.reduceBEq])) only [evC_skip, evC_region, evC_seq, evC_block, ev_t, ev_k, putS_some, ops_nil, ops_consg, guard_bool, evC_condC, cond_bool, ops_cons, next_some, nextD_some, then_norm, out_norm, Option.map_some, evalOp, AV.cells?, len_app, List.length_cons, List.length_nil, List.append_assoc, List.cons_append, List.nil_append, Nat.zero_add, Nat.reduceLeDiff, List.drop_succ_cons, List.take_zero, List.drop_nil, ↓reduceIte, reduceCtorEq, binA, binC, intBin, or_false, or_true, decide_true, decide_false, and_self, eq_self, IntWalk.i64_in, Bool.not_false, Bool.true_eq_false, Bool.false_eq_true, List.append_nil, setAt, evC_drawn, dr_nil, dr_cons, chk_nil, partsA, fillC, upd_at, upd_ne, l81_0, h5, h6, h7, h18, h19, hmx, b1', b2', happ]
        exact Post.mono (stepA _ (by simp only [upd_at, upd_ne, Nat.reduceBEq]) (by simp only [upd_ne, Nat.reduceBEq, h6]) (by simp only [upd_ne, Nat.reduceBEq, h7]) (by simp only [upd_ne, Nat.reduceBEq, h18]) (by simp only [upd_at]; rfl)) (fun ex σ' H' q => ⟨q.1, by rw [e3]; exact q.2⟩)
    · have b1' : ((xs.length : Int) ≤ i) := by omega
      have hm := mq_out (xs := xs) (ys := ys) (i := i) (by omega)
      simp only [hm, if_true, e3]
      simp (maxSteps := 4000000) (disch := first | omega | (refine _root_.id ?_; simp only [pl_int, pl_bool, pl_str, pl_undef, pl_nil, pl_ptr, plA_c, plA_agg, plA_tup, plV_c, plV_agg, List.all_cons, List.all_nil, Bool.and_true, Bool.and_self, eq_self, vi_int, vi_bool, get_app, get_app0, List.getElem?_cons_zero, List.getElem?_cons_succ, Option.join_some, lst_get, getL, upd_at, upd_ne, Nat.reduceBEq])) only [evC_skip, evC_region, evC_seq, evC_block, ev_t, ev_k, putS_some, ops_nil, ops_consg, guard_bool, evC_condC, cond_bool, ops_cons, next_some, nextD_some, then_norm, out_norm, Option.map_some, evalOp, AV.cells?, len_app, List.length_cons, List.length_nil, List.append_assoc, List.cons_append, List.nil_append, Nat.zero_add, Nat.reduceLeDiff, List.drop_succ_cons, List.take_zero, List.drop_nil, ↓reduceIte, reduceCtorEq, binA, binC, intBin, or_false, or_true, decide_true, and_self, eq_self, IntWalk.i64_in, Bool.not_false, Bool.true_eq_false, List.append_nil, setAt, evC_drawn, dr_nil, dr_cons, chk_nil, partsA, fillC, upd_at, upd_ne, l81_0, h5, h6, h18, h19, hmx, b1', happ]
      exact Post.mono (stepA _ (by simp only [upd_at, upd_ne, Nat.reduceBEq]) (by simp only [upd_ne, Nat.reduceBEq, h6]) (by simp only [upd_ne, Nat.reduceBEq, h7]) (by simp only [upd_ne, Nat.reduceBEq, h18]) (by simp only [upd_at]; rfl)) (fun ex σ' H' q => ⟨q.1, by rw [e3]; exact q.2⟩)
end Go.Proofs.Ytnblibimbggheaa
