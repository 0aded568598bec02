/- What functions of the program answer: part C2. -/
import Derived.Test.YtmockobmiagbcaaDoorC1
set_option linter.unusedVariables false
set_option linter.unusedSimpArgs false
set_option linter.unusedSectionVars false
namespace Go.Proofs.YtmockobmiagbcaaDoor
open Go Go.Proofs.YtmockobmiagbcaaDoor.VI
set_option maxHeartbeats 16000000
set_option maxRecDepth 20000
/-! The reference reads a loan -/
abbrev atW : List UInt8 := [97, 116]
abbrev evW : List UInt8 := [101, 118, 101, 114, 121]
noncomputable def evB : Option (List UInt8 × List UInt8) → Bool
  | none => true
  | some (r4, r5) => (numR 10 r5).2 && decide ((numR 10 r5).1 ≠ 0) && decide (r4 = evW)
noncomputable def evV : Option (List UInt8 × List UInt8) → Int
  | none => 0
  | some (_, r5) => (numR 10 r5).1
noncomputable def fin4 (h r1 r3 : List UInt8) (e : Option (List UInt8 × List UInt8)) : Option Ln :=
  match amQ h with
  | none => none
  | some a => if (numR 10 r1).2 = true then
      match splitL 47 r3 with
      | [p0, p1] => if ((numR 10 p0).2 && (numR 10 p1).2 && evB e && okL ⟨a, (numR 10 r1).1, (numR 10 p0).1, (numR 10 p1).1, evV e⟩) = true then some ⟨a, (numR 10 r1).1, (numR 10 p0).1, (numR 10 p1).1, evV e⟩ else none
      | _ => none
    else none
noncomputable def rlS (s : List UInt8) : Option Ln :=
  if onIx (splitL 32 s) = 0 then none else
  match (splitL 32 s).drop (onIx (splitL 32 s)) with
  | [_, r1, r2, r3] => if r2 = atW then fin4 (joinL 32 ((splitL 32 s).take (onIx (splitL 32 s)))) r1 r3 none else none
  | [_, r1, r2, r3, r4, r5] => if r2 = atW then fin4 (joinL 32 ((splitL 32 s).take (onIx (splitL 32 s)))) r1 r3 (some (r4, r5)) else none
  | _ => none
theorem slS {id n k : Nat} {cp : Cap} (h : k ≤ n) : ∃ c, sliceA 1 (.c (.slice (some (id, 0)) n cp)) (some (k : Int)) none none = some (.c (.slice (some (id, k)) (n - k) c)) := by
  refine ⟨capCut 1 (k : Int).toNat ((n : Int) - (k : Int)).toNat cp, ?_⟩
  have e : (0 : Int) ≤ (k : Int) ∧ (k : Int) ≤ (n : Int) ∧ (n : Int) ≤ (n : Int) := by omega
  show (if (0 : Int) ≤ (k : Int) ∧ (k : Int) ≤ (n : Int) ∧ (n : Int) ≤ (n : Int) then some (AV.c (CV.slice (some (id, 0 + (k : Int).toNat * 1)) ((n : Int) - (k : Int)).toNat (capCut 1 (k : Int).toNat ((n : Int) - (k : Int)).toNat cp))) else none) = _
  rw [if_pos e, Int.toNat_natCast, Nat.zero_add, Nat.mul_one, show ((n : Int) - (k : Int)).toNat = n - k by omega]
theorem numR_lt10 {w : List UInt8} : (numR 10 w).1 < 10000000000 := by
  have hk : ∀ (k n : Nat), 10 ^ k ≤ n → k < (decD n).length := by
    intro k
    induction k with
    | zero => intro n _; exact List.length_pos_iff.2 (decD_ne n)
    | succ k ih =>
      intro n hn
      have hp : (10 : Nat) ^ (k + 1) = 10 ^ k * 10 := Nat.pow_succ ..
      have h1 : 1 ≤ 10 ^ k := Nat.pow_pos (by omega)
      rw [decD_big (by omega), List.length_append]
      have := ih (n / 10) (by omega)
      simp only [List.length_cons, List.length_nil]; omega
  cases hB : (numR 10 w).2 with
  | true =>
    have hd := numR_true hB
    have hl : w.length ≤ 10 := by
      unfold numR at hB
      by_cases c : w = [] ∨ 10 < w.length ∨ (w.head? = some 48 ∧ 1 < w.length)
      · rw [if_pos c] at hB; cases hB
      · rcases Nat.lt_or_ge 10 w.length with h2 | h2
        · exact absurd (.inr (.inl h2)) c
        · exact h2
    rcases Nat.lt_or_ge (numR 10 w).1 10000000000 with h2 | h2
    · exact h2
    · have := hk 10 _ h2
      rw [hd] at this; omega
  | false =>
    have : (numR 10 w).1 = 0 := by
      unfold numR at hB ⊢
      split
      · rfl
      · split
        · rename_i c1 c2; rw [if_neg c1, if_pos c2] at hB; cases hB
        · rfl
    omega
theorem run25a {s : List UInt8} (hs : s.length ≤ 1048576) (H : AHeap) (h : onIx (splitL 32 s) = 0 ∨ ((splitL 32 s).length - onIx (splitL 32 s) ≠ 4 ∧ (splitL 32 s).length - onIx (splitL 32 s) ≠ 6)) : ev kk 25 [.c (.str ⟨s.toArray⟩)] H = some (outL none, H) := by
  obtain ⟨c, J1, e50, pJ, oJ⟩ := run50 (sp := 32) hs (H ++ [some ⟨27, [.int .i64 0, .int .i64 0, .int .i64 0, .int .i64 0, .int .i64 0], .own⟩])
  have e50 : ev kk 50 [.c (.str ⟨s.toArray⟩), .c (.int .u8 32)] _ = some (.c c, J1) := e50
  obtain ⟨id, rfl, hg⟩ := ap_get splitL_pos oJ
  have hgr := pJ.get (i := H.length) (b := ⟨27, [.int .i64 0, .int .i64 0, .int .i64 0, .int .i64 0, .int .i64 0], .own⟩) (by rw [get_app0]; rfl)
  have hlr := get_some_lt hgr
  have pH : Pre H J1 := pre_app.trans pJ
  have hsl := split_len (c := 32) (s := s)
  generalize splitL 32 s = W at *
  have hk := onIx_le W
  have L0 := fun (σ : Sl) (h4 : σ 4 = _) (h5 : σ 5 = .c (.int .i64 0)) => post_fin (loop25_0 (ws := W) (by omega) (cp := .toEnd 1) hg W.length 0 (by omega) σ h4 h5)
  simp only [List.drop_zero, Nat.zero_add] at L0
  generalize onIx W = k at *
  have r51 := run51 hk J1
  obtain ⟨cs, hslc⟩ := slS (id := id) (cp := .toEnd 1) hk
  have fin : ∀ (x : Option Blk) (v : AV), v.plain = true → finish true H v (J1.set H.length x) = some (v, H) := fun x v hv => finish_pre (pH.set (Nat.le_refl _)) hv
  rw [ev_call c25]; unfold k25 outL; rw [evB_eq rfl]
  by_cases hk0 : k = 0
  · have hk1 : ((k : Int) == 0) = true := by rw [hk0]; rfl
    simp (maxSteps := 4000000) (disch := first | omega | (refine _root_.id ?_; simp only [pl_int, pl_bool, pl_str, pl_undef, pl_nil, pl_ptr, plA_c, plA_agg, plA_tup, plV_c, plV_agg, List.all_cons, List.all_nil, Bool.and_true, Bool.and_self, eq_self, vi_int, vi_bool, get_app, get_app0, List.getElem?_cons_zero, List.getElem?_cons_succ, Option.join_some, lst_get, getL, upd_at, upd_ne, Nat.reduceBEq])) only [evC_skip, evC_exit, evC_ret, evC_region, evC_seq, evC_block, ev_t, ev_k, putS_some, upd_l, putS_none, ops_nil, ops_pick, pick_bool, ops_consg, guard_bool, evC_condC, cond_bool, ops_cons, next_some, next_none, next_ite, nextD_some, nextD_none, nextD_ite, bind_ite, map_ite, then_ite, then_norm, then_ret, then_exit, out_ite, out_norm, out_ret, out_exit, done_ite, done_norm, done_ret, putL, getL, Option.bind_some, Option.map_some, Option.bind_none, Option.map_none, evalOp, AV.cells?, readCells, readCell, writeCells, get_app, get_app0, set_app, set_app0, len_app, List.getElem?_cons_zero, List.getElem?_cons_succ, Option.join_some, List.length_cons, List.length_nil, List.append_assoc, List.cons_append, List.nil_append, Nat.zero_add, Nat.add_zero, Nat.reduceAdd, Nat.reduceLeDiff, Nat.reduceLT, Nat.reduceMul, Nat.reduceSub, List.drop_zero, List.drop_succ_cons, List.take_zero, List.take_succ_cons, List.take_nil, List.drop_nil, if_true, if_false, ite_true, ite_false, ite_self, ↓reduceIte, reduceCtorEq, binA, binC, intBin, or_false, false_or, or_true, true_or, and_true, true_and, Int.reduceLT, Int.reduceLE, Int.reduceToNat, Int.reduceAdd, evalRs, evalR, AV.toV0?, mkRes, V0.toAV, decide_true, decide_false, and_self, Nat.reduceEqDiff, lst_get, Int.cast_ofNat_Int, eq_self, IntWalk.i64_in, IntWalk.i16_in, IntWalk.i32_in, IntWalk.i8_in, IntWalk.u8_in, Int.reduceNeg, finish_app, finish_id, pl_int, pl_bool, pl_str, pl_undef, pl_nil, pl_ptr, plA_c, plA_agg, plA_tup, plV_c, plV_agg, List.all_cons, List.all_nil, Bool.and_true, Bool.true_and, decide_eq_true_eq, decide_eq_false_iff_not, beq_self_eq_true, Bool.not_true, Bool.not_false, Bool.true_eq_false, Bool.false_eq_true, List.map_cons, List.map_nil, List.append_nil, setAt, CV.ok, eqRes, bne_self_eq_false, List.set_cons_zero, List.set_cons_succ, evC_drawn, dr_nil, dr_cons, chk_nil, chk_cons, re_same, unA, Bool.not_eq_true', Bool.not_eq_eq_eq_not, Bool.not_not, Int.zero_add, List.getElem?_nil, partsA, fillC, Int.reduceEq, Int.reduceMul, Int.reduceSub, Int.reduceTDiv, Int.reduceTMod, List.flatten_cons, List.flatten_nil, finish_no, tdiv_pos, tmod_pos, Int.reduceDiv, Int.reduceMod, len_add, vi_int, vi_bool, Int.reduceBNe, Int.reduceBEq, Nat.reduceBEq, Nat.reduceBNe, post_some, post_ite, ite_ex, upd_at, upd_ne, cast_nonneg, cast_toNat, Nat.mul_one, false_implies, true_implies, implies_true, chkg_bool, chk_consg, guard_undef, optInt, e50, (fun σ h4 h5 => (L0 σ h4 h5).1), (fun σ h4 h5 => (L0 σ h4 h5).2.1), (fun σ h4 h5 => (L0 σ h4 h5).2.2.1), (fun σ h4 h5 => (L0 σ h4 h5).2.2.2), r51, hslc, hk1, hgr, fin, get_appl hlr, set_appl hlr, get_set hlr, get_set_app hlr, set_set_app hlr, set_set, len_set0]
    trace_state
  · have hk1 : ((k : Int) == 0) = false := beq_eq_false_iff_ne.2 (by omega)
    have hm4 : (((W.length - k : Nat) : Int) != 4) = true := bne_iff_ne.2 (by omega)
    have hm6 : (((W.length - k : Nat) : Int) != 6) = true := bne_iff_ne.2 (by omega)
    simp (maxSteps := 4000000) (disch := first | omega | (refine _root_.id ?_; simp only [pl_int, pl_bool, pl_str, pl_undef, pl_nil, pl_ptr, plA_c, plA_agg, plA_tup, plV_c, plV_agg, List.all_cons, List.all_nil, Bool.and_true, Bool.and_self, eq_self, vi_int, vi_bool, get_app, get_app0, List.getElem?_cons_zero, List.getElem?_cons_succ, Option.join_some, lst_get, getL, upd_at, upd_ne, Nat.reduceBEq])) only [evC_skip, evC_exit, evC_ret, evC_region, evC_seq, evC_block, ev_t, ev_k, putS_some, upd_l, putS_none, ops_nil, ops_pick, pick_bool, ops_consg, guard_bool, evC_condC, cond_bool, ops_cons, next_some, next_none, next_ite, nextD_some, nextD_none, nextD_ite, bind_ite, map_ite, then_ite, then_norm, then_ret, then_exit, out_ite, out_norm, out_ret, out_exit, done_ite, done_norm, done_ret, putL, getL, Option.bind_some, Option.map_some, Option.bind_none, Option.map_none, evalOp, AV.cells?, readCells, readCell, writeCells, get_app, get_app0, set_app, set_app0, len_app, List.getElem?_cons_zero, List.getElem?_cons_succ, Option.join_some, List.length_cons, List.length_nil, List.append_assoc, List.cons_append, List.nil_append, Nat.zero_add, Nat.add_zero, Nat.reduceAdd, Nat.reduceLeDiff, Nat.reduceLT, Nat.reduceMul, Nat.reduceSub, List.drop_zero, List.drop_succ_cons, List.take_zero, List.take_succ_cons, List.take_nil, List.drop_nil, if_true, if_false, ite_true, ite_false, ite_self, ↓reduceIte, reduceCtorEq, binA, binC, intBin, or_false, false_or, or_true, true_or, and_true, true_and, Int.reduceLT, Int.reduceLE, Int.reduceToNat, Int.reduceAdd, evalRs, evalR, AV.toV0?, mkRes, V0.toAV, decide_true, decide_false, and_self, Nat.reduceEqDiff, lst_get, Int.cast_ofNat_Int, eq_self, IntWalk.i64_in, IntWalk.i16_in, IntWalk.i32_in, IntWalk.i8_in, IntWalk.u8_in, Int.reduceNeg, finish_app, finish_id, pl_int, pl_bool, pl_str, pl_undef, pl_nil, pl_ptr, plA_c, plA_agg, plA_tup, plV_c, plV_agg, List.all_cons, List.all_nil, Bool.and_true, Bool.true_and, decide_eq_true_eq, decide_eq_false_iff_not, beq_self_eq_true, Bool.not_true, Bool.not_false, Bool.true_eq_false, Bool.false_eq_true, List.map_cons, List.map_nil, List.append_nil, setAt, CV.ok, eqRes, bne_self_eq_false, List.set_cons_zero, List.set_cons_succ, evC_drawn, dr_nil, dr_cons, chk_nil, chk_cons, re_same, unA, Bool.not_eq_true', Bool.not_eq_eq_eq_not, Bool.not_not, Int.zero_add, List.getElem?_nil, partsA, fillC, Int.reduceEq, Int.reduceMul, Int.reduceSub, Int.reduceTDiv, Int.reduceTMod, List.flatten_cons, List.flatten_nil, finish_no, tdiv_pos, tmod_pos, Int.reduceDiv, Int.reduceMod, len_add, vi_int, vi_bool, Int.reduceBNe, Int.reduceBEq, Nat.reduceBEq, Nat.reduceBNe, post_some, post_ite, ite_ex, upd_at, upd_ne, cast_nonneg, cast_toNat, Nat.mul_one, false_implies, true_implies, implies_true, chkg_bool, chk_consg, guard_undef, optInt, e50, (fun σ h4 h5 => (L0 σ h4 h5).1), (fun σ h4 h5 => (L0 σ h4 h5).2.1), (fun σ h4 h5 => (L0 σ h4 h5).2.2.1), (fun σ h4 h5 => (L0 σ h4 h5).2.2.2), r51, hslc, hk1, hm4, hm6, hgr, fin, get_appl hlr, set_appl hlr, get_set hlr, get_set_app hlr, set_set_app hlr, set_set, len_set0]
    trace_state
end Go.Proofs.YtmockobmiagbcaaDoor
