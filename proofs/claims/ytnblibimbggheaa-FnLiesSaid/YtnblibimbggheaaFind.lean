/- What functions of the program answer: part Find. -/
import Derived.Test.YtnblibimbggheaaFoils
set_option linter.unusedVariables false
set_option linter.unusedSimpArgs false
set_option linter.unusedSectionVars false
namespace Go.Proofs.Ytnblibimbggheaa
open Go Go.Proofs.Ytnblibimbggheaa.VI
set_option maxHeartbeats 16000000
set_option maxRecDepth 20000
/-- The first that fits, from here on. -/
def fdG (s : Hf) (w : Int) : List Hf → Nat → Option Nat
  | [], _ => none
  | h :: hs, i => if ftB s h w = true then some i else fdG s w hs (i + 1)
theorem fdG_step {s : Hf} {w : Int} {hs : List Hf} {i : Nat} (hi : i < hs.length) : fdG s w (hs.drop i) i = if ftB s (hs[i]'hi) w = true then some i else fdG s w (hs.drop (i + 1)) (i + 1) := by
  rw [List.drop_eq_getElem_cons hi]; rfl
theorem loop32 {s : Hf} {w : Int} {p : Option (Nat × Nat)} {cap : Cap} {hs : List Hf} (hlen : hs.length ≤ 4398046511104) {j : Nat} {e : TypeId} {m : BM} : ∀ (n i : Nat) (_ : i + n = hs.length) (J : AHeap) (_ : HfAt J s) (_ : Hfs J p hs) (_ : ∀ h ∈ hs, HfAt J h) (_ : J.get j = some ⟨e, hfr s, m⟩) (σ : Sl) (_ : σ 2 = .c (.int .i64 w)) (_ : σ 3 = .c (.ptr (some (j, 0)))) (_ : σ 25 = .c (.slice p hs.length cap)) (_ : σ 26 = .c (.int .i64 hs.length)) (_ : σ 27 = .c (.int .i64 i)),
    Post (evC (ev kk) (.loop l32_0) (σ, J)) fun ex σ' H' => ex = (if (fdG s w (hs.drop i) i).isSome = true then .ret else .exit 0) ∧ (∃ T, H' = J ++ T) ∧ ∀ r, fdG s w (hs.drop i) i = some r → σ' 6 = .c (.int .i64 r) ∧ σ' 7 = .c (.int .i64 0)
  | 0, i, hi, J, hsA, hp, ha, hj, σ, h2, h3, h25, h26, h27 => by
    have hge : ¬ ((i : Int) < hs.length) := by omega
    have e1 : hs.drop i = [] := List.drop_eq_nil_of_le (by omega)
    have e2 : fdG s w [] i = none := rfl
    rw [evC_loop, e1, e2]
    simp only [evC_exit, evC_region, evC_seq, ev_t, putS_some, ops_nil, evC_condC, cond_bool, ops_cons, next_some, then_norm, then_exit, Option.map_some, evalOp, ↓reduceIte, reduceCtorEq, binA, binC, intBin, or_false, or_true, and_true, true_and, decide_false, eq_self, Bool.false_eq_true, post_some, upd_at, false_implies, implies_true, l32_0, h26, h27, hge, Option.isSome_none, Bool.false_eq_true]
    exact laid0
  | n + 1, i, hi, J, hsA, hp, ha, hj, σ, h2, h3, h25, h26, h27 => by
    have hil : i < hs.length := by omega
    have hlt : (i : Int) < hs.length := by omega
    obtain ⟨id, t, bm, rfl, hb⟩ := _root_.id hp (by omega)
    have hjl := get_some_lt hj
    have hle : i * 18 + 18 ≤ (hrows hs).length := by rw [hrowl]; omega
    have cut := hcut hil
    have r95 := fun T => run70 (hsA.app T) ((ha hs[i] (List.getElem_mem hil)).app T) w
    have step := fun (T : List (Option Blk)) => loop32 (cap := cap) (s := s) (w := w) (j := j) (e := e) (m := m) hlen n (i + 1) (by omega) (J ++ T) (hsA.app T) (hp.app T) (fun h hh => (ha h hh).app T) (by rw [get_appl hjl]; exact hj)
    rw [evC_loop, fdG_step hil]
    generalize hs[i]'hil = x at *
    cases hx : ftB s x w
    · simp only [hx] at r95
      simp only [Bool.false_eq_true, if_false]
      simp (maxSteps := 4000000) (disch := first | omega | (refine _root_.id ?_; simp only [pl_int, pl_bool, pl_str, pl_undef, pl_nil, pl_ptr, plA_c, plA_agg, plA_tup, plV_c, plV_agg, List.all_cons, List.all_nil, Bool.and_true, Bool.and_self, eq_self, vi_int, vi_bool, get_app, get_app0, List.getElem?_cons_zero, List.getElem?_cons_succ, Option.join_some, lst_get, getL, upd_at, upd_ne, Nat.reduceBEq])) only [evC_skip, evC_region, evC_seq, evC_block, ev_t, ev_k, putS_some, putS_none, ops_nil, evC_condC, cond_bool, ops_cons, next_some, then_norm, out_norm, Option.map_some, evalOp, AV.cells?, readCells, writeCells, get_app0, set_app0, List.getElem?_cons_zero, Option.join_some, List.length_cons, List.length_nil, List.nil_append, Nat.zero_add, Nat.reduceAdd, List.drop_zero, List.drop_succ_cons, List.take_zero, List.take_succ_cons, List.drop_nil, ↓reduceIte, reduceCtorEq, binA, binC, intBin, or_false, or_true, decide_true, and_self, eq_self, IntWalk.i64_in, List.all_cons, Bool.and_true, Bool.false_eq_true, List.map_cons, List.map_nil, List.append_nil, setAt, CV.ok, List.set_cons_zero, upd_at, upd_ne, cast_nonneg, cast_toNat, l32_0, h2, h3, h25, h26, h27, hlt, hb, hle, cut, get_appl hjl, hj, gl, gt, Nat.le_refl, grow_ok, r95]
      exact Post.mono (step _ _ (by simp only [upd_ne, Nat.reduceBEq, h2]) (by simp only [upd_ne, Nat.reduceBEq, h3]) (by simp only [upd_ne, Nat.reduceBEq, h25]) (by simp only [upd_ne, Nat.reduceBEq, h26]) (by simp only [upd_at]; rfl)) (fun ex σ' H' q => ⟨q.1, laid q.2.1, q.2.2⟩)
    · simp only [hx] at r95
      simp only [if_true]
      simp (maxSteps := 4000000) (disch := first | omega | (refine _root_.id ?_; simp only [pl_int, pl_bool, pl_str, pl_undef, pl_nil, pl_ptr, plA_c, plA_agg, plA_tup, plV_c, plV_agg, List.all_cons, List.all_nil, Bool.and_true, Bool.and_self, eq_self, vi_int, vi_bool, get_app, get_app0, List.getElem?_cons_zero, List.getElem?_cons_succ, Option.join_some, lst_get, getL, upd_at, upd_ne, Nat.reduceBEq])) only [evC_skip, evC_ret, evC_region, evC_seq, evC_block, ev_t, ev_k, putS_some, putS_none, ops_nil, evC_condC, cond_bool, ops_cons, next_some, then_norm, then_ret, out_ret, Option.map_some, evalOp, AV.cells?, readCells, writeCells, get_app0, set_app0, List.getElem?_cons_zero, Option.join_some, List.length_cons, List.length_nil, List.nil_append, Nat.zero_add, Nat.reduceAdd, List.drop_zero, List.drop_succ_cons, List.take_zero, List.take_succ_cons, List.drop_nil, ↓reduceIte, reduceCtorEq, binA, binC, intBin, or_false, or_true, and_true, true_and, decide_true, and_self, eq_self, List.all_cons, Bool.and_true, List.map_cons, List.map_nil, List.append_nil, setAt, CV.ok, List.set_cons_zero, post_some, upd_at, upd_ne, cast_nonneg, cast_toNat, l32_0, h2, h3, h25, h26, h27, hlt, hb, hle, cut, get_appl hjl, hj, gl, gt, Nat.le_refl, grow_ok, r95, Option.isSome_some]
      exact ⟨⟨_, rfl⟩, fun r hr => by injection hr with hr; subst hr; rfl⟩
/-- The first foil that fits, with a code. -/
def fdC (s : Hf) (hs : List Hf) (w : Int) : Int := if pcR s hs = 0 then if hs.length ≤ 40 ∧ 0 ≤ w ∧ w ≤ 16 then 0 else 2 else pcR s hs
def fdR (s : Hf) (hs : List Hf) (w : Int) : AV := if fdC s hs w = 0 then match fdG s w hs 0 with | some r => .tup [.c (.int .i64 r), .c (.int .i64 0)] | none => .tup [.c (.int .i64 0), .c (.int .i64 6)] else .tup [.c (.int .i64 0), .c (.int .i64 (fdC s hs w))]
theorem run69 (n : Int) (H : AHeap) : ev kk 69 [.c (.int .i64 n)] H = some (.c (.bool (decide (0 ≤ n ∧ n ≤ 16))), H) := by
  rw [ev_call c69]; unfold k69; rw [evB_eq rfl]
  simp only [evC_ret, evC_region, evC_seq, ev_t, ev_k, putS_some, upd_l, ops_nil, ops_consg, guard_bool, ops_cons, next_some, map_ite, then_ite, then_norm, done_ite, done_ret, putL, getL, Option.bind_some, Option.map_some, evalOp, ↓reduceIte, reduceCtorEq, binA, binC, intBin, or_false, or_true, evalRs, evalR, AV.toV0?, mkRes, V0.toAV, lst_get, eq_self, finish_id, pl_bool, plA_c, decide_eq_true_eq, Bool.not_true, Bool.false_eq_true]
  repeat' (refine ite_to (fun _ => ?_) (fun _ => ?_))
  all_goals (first | (refine leafT ?_; omega) | (refine leafF ?_; omega) | (refine leafD ?_; omega))
theorem run32 {s : Hf} {w : Int} {p : Option (Nat × Nat)} {cap : Cap} {hs : List Hf} (hlen : hs.length ≤ 4398046511104) {H : AHeap} (hsA : HfAt H s) (hp : Hfs H p hs) (ha : ∀ h ∈ hs, HfAt H h) : ev kk 32 [.agg (hfr s), .c (.slice p hs.length cap), .c (.int .i64 w)] H = some (fdR s hs w, H) := by
  have hj : AHeap.get (H ++ [hfb s]) H.length = hfb s := by rw [get_app0]; rfl
  have r90 := run67 (cap := cap) hlen (hsA.app [hfb s]) (hp.app _) (fun h hh => (ha h hh).app _)
  unfold fdR fdC
  by_cases h0 : pcR s hs = 0
  · simp only [h0, if_true] at r90 ⊢
    by_cases h40 : (40 : Int) < hs.length
    · have n40 : ¬ hs.length ≤ 40 := by omega
      simp only [n40, false_and, if_false]
      rw [ev_call c32]; unfold k32; rw [evB_eq rfl]
      simp (maxSteps := 4000000) (disch := first | omega | (refine _root_.id ?_; simp only [pl_int, pl_bool, pl_str, pl_undef, pl_nil, pl_ptr, plA_c, plA_agg, plA_tup, plV_c, plV_agg, List.all_cons, List.all_nil, Bool.and_true, Bool.and_self, eq_self, vi_int, vi_bool, get_app, get_app0, List.getElem?_cons_zero, List.getElem?_cons_succ, Option.join_some, lst_get, getL, upd_at, upd_ne, Nat.reduceBEq])) only [evC_skip, evC_ret, evC_region, evC_seq, ev_t, ev_k, putS_some, upd_l, ops_nil, ops_consg, guard_bool, evC_condC, cond_bool, ops_cons, next_some, then_norm, then_ret, done_ret, putL, getL, Option.bind_some, Option.map_some, evalOp, AV.cells?, readCells, get_app0, List.getElem?_cons_zero, Option.join_some, List.length_cons, Nat.zero_add, Nat.reduceAdd, List.drop_zero, List.take_succ_cons, ↓reduceIte, reduceCtorEq, binA, binC, intBin, or_false, or_true, evalRs, evalR, AV.toV0?, mkRes, V0.toAV, decide_true, lst_get, eq_self, finish_app, Bool.not_false, Bool.true_eq_false, Bool.false_eq_true, List.map_cons, List.map_nil, List.append_nil, bne_self_eq_false, Int.reduceEq, gl, gt, Nat.le_refl, r90, h40]
    · have n40 : hs.length ≤ 40 := by omega
      by_cases hw : 0 ≤ w ∧ w ≤ 16
      · simp only [n40, hw, and_self, if_true]
        have L := fun σ h2 h3 h25 h26 h27 => post_finT (ex := if (fdG s w hs 0).isSome = true then Ex.ret else Ex.exit 0) (Q := fun σ' => ∀ r, fdG s w hs 0 = some r → σ' 6 = .c (.int .i64 r) ∧ σ' 7 = .c (.int .i64 0)) (loop32 (w := w) (cap := cap) hlen hs.length 0 (by omega) (H ++ [hfb s]) (hsA.app _) (hp.app _) (fun h hh => (ha h hh).app _) hj σ h2 h3 h25 h26 h27)
        simp only [Int.natCast_zero, List.append_assoc, List.cons_append, List.nil_append] at L
        cases hf : fdG s w hs 0 with
        | none =>
          rw [hf] at L
          simp only [Option.isSome_none, Bool.false_eq_true, if_false] at L
          rw [ev_call c32]; unfold k32; rw [evB_eq rfl]
          simp (maxSteps := 4000000) (disch := first | omega | (refine _root_.id ?_; simp only [pl_int, pl_bool, pl_str, pl_undef, pl_nil, pl_ptr, plA_c, plA_agg, plA_tup, plV_c, plV_agg, List.all_cons, List.all_nil, Bool.and_true, Bool.and_self, eq_self, vi_int, vi_bool, get_app, get_app0, List.getElem?_cons_zero, List.getElem?_cons_succ, Option.join_some, lst_get, getL, upd_at, upd_ne, Nat.reduceBEq])) only [evC_skip, evC_ret, evC_region, evC_seq, evC_block, ev_t, ev_k, putS_some, upd_l, ops_nil, ops_consg, guard_bool, evC_condC, cond_bool, ops_cons, next_some, then_norm, out_exit, done_ret, putL, getL, Option.bind_some, Option.map_some, evalOp, AV.cells?, readCells, get_app0, List.getElem?_cons_zero, Option.join_some, List.length_cons, Nat.zero_add, Nat.reduceAdd, List.drop_zero, List.take_succ_cons, ↓reduceIte, reduceCtorEq, binA, binC, intBin, or_false, or_true, evalRs, evalR, AV.toV0?, mkRes, V0.toAV, decide_true, decide_false, and_self, lst_get, eq_self, finish_app, Bool.not_true, Bool.false_eq_true, List.map_cons, List.map_nil, List.append_nil, bne_self_eq_false, unA, upd_at, upd_ne, gl, gt, Nat.le_refl, r90, h40, run69, hw, (fun σ h2 h3 h25 h26 h27 => (L σ h2 h3 h25 h26 h27).1)]
        | some r =>
          rw [hf] at L
          have L2 := fun σ h2 h3 h25 h26 h27 => (L σ h2 h3 h25 h26 h27).2 r rfl
          simp only [Option.isSome_some, if_true] at L
          rw [ev_call c32]; unfold k32; rw [evB_eq rfl]
          simp (maxSteps := 4000000) (disch := first | omega | (refine _root_.id ?_; simp only [pl_int, pl_bool, pl_str, pl_undef, pl_nil, pl_ptr, plA_c, plA_agg, plA_tup, plV_c, plV_agg, List.all_cons, List.all_nil, Bool.and_true, Bool.and_self, eq_self, vi_int, vi_bool, get_app, get_app0, List.getElem?_cons_zero, List.getElem?_cons_succ, Option.join_some, lst_get, getL, upd_at, upd_ne, Nat.reduceBEq])) only [evC_skip, evC_region, evC_seq, evC_block, ev_t, ev_k, putS_some, upd_l, ops_nil, ops_consg, guard_bool, evC_condC, cond_bool, ops_cons, next_some, then_norm, then_ret, out_ret, done_ret, putL, getL, Option.bind_some, Option.map_some, evalOp, AV.cells?, readCells, get_app0, List.getElem?_cons_zero, Option.join_some, List.length_cons, Nat.zero_add, Nat.reduceAdd, List.drop_zero, List.take_succ_cons, ↓reduceIte, reduceCtorEq, binA, binC, intBin, or_false, or_true, evalRs, evalR, AV.toV0?, mkRes, V0.toAV, decide_true, decide_false, and_self, lst_get, eq_self, finish_app, Bool.not_true, Bool.false_eq_true, List.map_cons, List.map_nil, List.append_nil, bne_self_eq_false, unA, gl, gt, Nat.le_refl, r90, h40, run69, hw, (fun σ h2 h3 h25 h26 h27 => (L σ h2 h3 h25 h26 h27).1), (fun σ h2 h3 h25 h26 h27 => (L2 σ h2 h3 h25 h26 h27).1), (fun σ h2 h3 h25 h26 h27 => (L2 σ h2 h3 h25 h26 h27).2)]
      · simp only [hw, and_false, if_false]
        rw [ev_call c32]; unfold k32; rw [evB_eq rfl]
        simp (maxSteps := 4000000) (disch := first | omega | (refine _root_.id ?_; simp only [pl_int, pl_bool, pl_str, pl_undef, pl_nil, pl_ptr, plA_c, plA_agg, plA_tup, plV_c, plV_agg, List.all_cons, List.all_nil, Bool.and_true, Bool.and_self, eq_self, vi_int, vi_bool, get_app, get_app0, List.getElem?_cons_zero, List.getElem?_cons_succ, Option.join_some, lst_get, getL, upd_at, upd_ne, Nat.reduceBEq])) only [evC_skip, evC_ret, evC_region, evC_seq, ev_t, ev_k, putS_some, upd_l, ops_nil, ops_consg, guard_bool, evC_condC, cond_bool, ops_cons, next_some, then_norm, then_ret, done_ret, putL, getL, Option.bind_some, Option.map_some, evalOp, AV.cells?, readCells, get_app0, List.getElem?_cons_zero, Option.join_some, List.length_cons, Nat.zero_add, Nat.reduceAdd, List.drop_zero, List.take_succ_cons, ↓reduceIte, reduceCtorEq, binA, binC, intBin, or_false, or_true, evalRs, evalR, AV.toV0?, mkRes, V0.toAV, decide_false, lst_get, eq_self, finish_app, Bool.not_false, Bool.false_eq_true, List.map_cons, List.map_nil, List.append_nil, bne_self_eq_false, unA, Int.reduceEq, gl, gt, Nat.le_refl, r90, h40, run69, hw]
  · simp only [h0, if_false] at ⊢
    have h0'' : (pcR s hs != 0) = true := by simpa using h0
    rw [ev_call c32]; unfold k32; rw [evB_eq rfl]
    simp (maxSteps := 4000000) (disch := first | omega | (refine _root_.id ?_; simp only [pl_int, pl_bool, pl_str, pl_undef, pl_nil, pl_ptr, plA_c, plA_agg, plA_tup, plV_c, plV_agg, List.all_cons, List.all_nil, Bool.and_true, Bool.and_self, eq_self, vi_int, vi_bool, get_app, get_app0, List.getElem?_cons_zero, List.getElem?_cons_succ, Option.join_some, lst_get, getL, upd_at, upd_ne, Nat.reduceBEq])) only [evC_ret, evC_region, evC_seq, ev_t, ev_k, putS_some, upd_l, ops_nil, evC_condC, cond_bool, ops_cons, next_some, then_norm, then_ret, done_ret, putL, getL, Option.bind_some, Option.map_some, evalOp, AV.cells?, readCells, get_app0, List.getElem?_cons_zero, Option.join_some, List.length_cons, Nat.zero_add, Nat.reduceAdd, List.drop_zero, List.take_succ_cons, ↓reduceIte, reduceCtorEq, binA, binC, intBin, or_false, or_true, evalRs, evalR, AV.toV0?, mkRes, V0.toAV, lst_get, eq_self, finish_app, List.map_cons, List.map_nil, List.append_nil, gl, gt, Nat.le_refl, r90, h0'']
end Go.Proofs.Ytnblibimbggheaa
