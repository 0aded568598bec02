/- What functions of the program answer: part NearLaw. -/
import Derived.Test.YtnblibimbggheaaNear
import Derived.Test.YtnblibimbggheaaFindLaw
set_option linter.unusedVariables false
set_option linter.unusedSimpArgs false
set_option linter.unusedSectionVars false
namespace Go.Proofs.Ytnblibimbggheaa
open Go Go.Proofs.Ytnblibimbggheaa.VI
set_option maxHeartbeats 16000000
set_option maxRecDepth 20000
/-- The nearest foil, with a code. -/
def nrC (s : Hf) (hs : List Hf) : Int := if pcR s hs = 0 then if 40 < hs.length then 2 else if hs.length = 0 then 6 else 0 else pcR s hs
def nrR (s : Hf) (hs : List Hf) : AV := if nrC s hs = 0 then .tup [.c (.int .i64 (nrG s hs 0 0 0).1), .c (.int .i64 (nrG s hs 0 0 0).2), .c (.int .i64 0)] else .tup [.c (.int .i64 0), .c (.int .i64 0), .c (.int .i64 (nrC s hs))]
theorem run33 {s : Hf} {p : Option (Nat × Nat)} {cap : Cap} {hs : List Hf} (hlen : hs.length ≤ 4398046511104) {H : AHeap} (hsA : HfAt H s) (hp : Hfs H p hs) (ha : ∀ h ∈ hs, HfAt H h) : ev kk 33 [.agg (hfr s), .c (.slice p hs.length cap)] H = some (nrR s hs, H) := by
  have hj : AHeap.get (H ++ [hfb s]) H.length = hfb s := by rw [get_app0]; rfl
  have r90 := run67 (cap := cap) hlen (hsA.app [hfb s]) (hp.app _) (fun h hh => (ha h hh).app _)
  unfold nrR nrC
  by_cases h0 : pcR s hs = 0
  · simp only [h0, if_true] at r90 ⊢
    by_cases h40 : 40 < hs.length
    · have h40' : (40 : Int) < hs.length := by omega
      rw [if_pos h40, if_neg (by omega)]
      rw [ev_call c33]; unfold k33; rw [evB_eq rfl]
      simp (maxSteps := 4000000) (disch := first | omega | (refine _root_.id ?_; simp only [pl_int, pl_bool, pl_str, pl_undef, pl_nil, pl_ptr, plA_c, plA_agg, plA_tup, plV_c, plV_agg, List.all_cons, List.all_nil, Bool.and_true, Bool.and_self, eq_self, vi_int, vi_bool, get_app, get_app0, List.getElem?_cons_zero, List.getElem?_cons_succ, Option.join_some, lst_get, getL, upd_at, upd_ne, Nat.reduceBEq])) only [evC_skip, evC_ret, evC_region, evC_seq, evC_block, ev_t, ev_k, putS_some, upd_l, ops_nil, evC_condC, cond_bool, ops_cons, next_some, then_norm, then_ret, out_ret, done_ret, putL, getL, Option.bind_some, Option.map_some, evalOp, AV.cells?, readCells, get_app0, List.getElem?_cons_zero, Option.join_some, List.length_cons, Nat.zero_add, Nat.reduceAdd, List.drop_zero, List.take_succ_cons, ↓reduceIte, reduceCtorEq, binA, binC, intBin, or_false, or_true, evalRs, evalR, AV.toV0?, mkRes, V0.toAV, decide_true, lst_get, eq_self, Int.reduceNeg, finish_app, Bool.false_eq_true, List.map_cons, List.map_nil, List.append_nil, bne_self_eq_false, gl, gt, Nat.le_refl, r90, h40']
    · have h40' : ¬ (40 : Int) < hs.length := by omega
      rw [if_neg h40]
      by_cases hz : hs.length = 0
      · rw [if_pos hz, if_neg (by omega)]
        have hz' : ((hs.length : Int) == 0) = true := by simp [hz]
        rw [ev_call c33]; unfold k33; rw [evB_eq rfl]
        simp (maxSteps := 4000000) (disch := first | omega | (refine _root_.id ?_; simp only [pl_int, pl_bool, pl_str, pl_undef, pl_nil, pl_ptr, plA_c, plA_agg, plA_tup, plV_c, plV_agg, List.all_cons, List.all_nil, Bool.and_true, Bool.and_self, eq_self, vi_int, vi_bool, get_app, get_app0, List.getElem?_cons_zero, List.getElem?_cons_succ, Option.join_some, lst_get, getL, upd_at, upd_ne, Nat.reduceBEq])) only [evC_skip, evC_ret, evC_region, evC_seq, evC_block, ev_t, ev_k, putS_some, upd_l, ops_nil, evC_condC, cond_bool, ops_cons, next_some, then_norm, then_ret, out_ret, done_ret, putL, getL, Option.bind_some, Option.map_some, evalOp, AV.cells?, readCells, get_app0, List.getElem?_cons_zero, Option.join_some, List.length_cons, Nat.zero_add, Nat.reduceAdd, List.drop_zero, List.take_succ_cons, ↓reduceIte, reduceCtorEq, binA, binC, intBin, or_false, or_true, evalRs, evalR, AV.toV0?, mkRes, V0.toAV, decide_false, lst_get, eq_self, Int.reduceNeg, finish_app, Bool.false_eq_true, List.map_cons, List.map_nil, List.append_nil, bne_self_eq_false, gl, gt, Nat.le_refl, r90, h40', hz']
      · rw [if_neg hz, if_pos rfl]
        have hz' : ((hs.length : Int) == 0) = false := by simpa using hz
        have L := fun σ h2 h8 h9 h27 h28 h29 => post_finT (ex := Ex.exit 1) (Q := fun σ' => 0 < 0 + hs.length → σ' 8 = .c (.int .i64 (nrG s hs 0 0 0).1) ∧ σ' 9 = .c (.int .i64 (nrG s hs 0 0 0).2)) (loop33 (cap := cap) hlen hs.length 0 (by omega) 0 0 (by omega) (H ++ [hfb s]) (hsA.app _) (hp.app _) (fun h hh => (ha h hh).app _) hj σ h2 h8 h9 h27 h28 h29)
        simp only [Int.natCast_zero, List.append_assoc, List.cons_append, List.nil_append, if_true] at L
        have pos : 0 < 0 + hs.length := by omega
        rw [ev_call c33]; unfold k33; rw [evB_eq rfl]
        simp (maxSteps := 4000000) (disch := first | omega | (refine _root_.id ?_; simp only [pl_int, pl_bool, pl_str, pl_undef, pl_nil, pl_ptr, plA_c, plA_agg, plA_tup, plV_c, plV_agg, List.all_cons, List.all_nil, Bool.and_true, Bool.and_self, eq_self, vi_int, vi_bool, get_app, get_app0, List.getElem?_cons_zero, List.getElem?_cons_succ, Option.join_some, lst_get, getL, upd_at, upd_ne, Nat.reduceBEq])) only [evC_skip, evC_ret, evC_region, evC_seq, evC_block, ev_t, ev_k, putS_some, upd_l, ops_nil, evC_condC, cond_bool, ops_cons, next_some, then_norm, out_norm, out_exit, done_ret, putL, getL, Option.bind_some, Option.map_some, evalOp, AV.cells?, readCells, get_app0, List.getElem?_cons_zero, Option.join_some, List.length_cons, Nat.zero_add, Nat.reduceAdd, List.drop_zero, List.take_succ_cons, ↓reduceIte, reduceCtorEq, binA, binC, intBin, or_false, or_true, evalRs, evalR, AV.toV0?, mkRes, V0.toAV, decide_false, lst_get, eq_self, Int.reduceNeg, finish_app, Bool.false_eq_true, List.map_cons, List.map_nil, List.append_nil, bne_self_eq_false, upd_at, upd_ne, gl, gt, Nat.le_refl, r90, h40', hz', (fun σ h1 h2 h8 h9 h10 h11 => (L σ h1 h2 h8 h9 h10 h11).1), (fun σ h1 h2 h8 h9 h10 h11 => ((L σ h1 h2 h8 h9 h10 h11).2 pos).1), (fun σ h1 h2 h8 h9 h10 h11 => ((L σ h1 h2 h8 h9 h10 h11).2 pos).2)]
  · simp only [h0, if_false] at ⊢
    have h0'' : (pcR s hs != 0) = true := by simpa using h0
    rw [ev_call c33]; unfold k33; rw [evB_eq rfl]
    simp (maxSteps := 4000000) (disch := first | omega | (refine _root_.id ?_; simp only [pl_int, pl_bool, pl_str, pl_undef, pl_nil, pl_ptr, plA_c, plA_agg, plA_tup, plV_c, plV_agg, List.all_cons, List.all_nil, Bool.and_true, Bool.and_self, eq_self, vi_int, vi_bool, get_app, get_app0, List.getElem?_cons_zero, List.getElem?_cons_succ, Option.join_some, lst_get, getL, upd_at, upd_ne, Nat.reduceBEq])) only [evC_ret, evC_region, evC_seq, ev_t, ev_k, putS_some, upd_l, ops_nil, evC_condC, cond_bool, ops_cons, next_some, then_norm, then_ret, done_ret, putL, getL, Option.bind_some, Option.map_some, evalOp, AV.cells?, readCells, get_app0, List.getElem?_cons_zero, Option.join_some, List.length_cons, Nat.zero_add, Nat.reduceAdd, List.drop_zero, List.take_succ_cons, ↓reduceIte, reduceCtorEq, binA, binC, intBin, or_false, or_true, evalRs, evalR, AV.toV0?, mkRes, V0.toAV, lst_get, eq_self, Int.reduceNeg, finish_app, List.map_cons, List.map_nil, List.append_nil, gl, gt, Nat.le_refl, r90, h0'']
end Go.Proofs.Ytnblibimbggheaa
