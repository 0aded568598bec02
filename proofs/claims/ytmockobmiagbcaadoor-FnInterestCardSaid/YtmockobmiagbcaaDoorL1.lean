/- What functions of the program answer: part L1. -/
import Derived.Test.YtmockobmiagbcaaDoorS0
import Derived.Test.YtmockobmiagbcaaDoorRate
import Derived.Test.YtmockobmiagbcaaDoorViE
set_option linter.unusedVariables false
set_option linter.unusedSimpArgs false
set_option linter.unusedSectionVars false
namespace Go.Proofs.YtmockobmiagbcaaDoor
open Go Go.Proofs.YtmockobmiagbcaaDoor.VI
set_option maxHeartbeats 16000000
set_option maxRecDepth 20000
/-! Texts of amounts -/
theorem strBin_add {a b : List UInt8} (h : a.length + b.length ≤ 140737488355328) : strBin .add ⟨a.toArray⟩ ⟨b.toArray⟩ = some (.str ⟨(a ++ b).toArray⟩) := by
  have e : (⟨a.toArray⟩ : ByteArray).size + (⟨b.toArray⟩ : ByteArray).size ≤ 140737488355328 := by
    show a.toArray.size + b.toArray.size ≤ _
    simpa using h
  unfold strBin
  rw [if_pos e]
  have : (⟨a.toArray⟩ ++ ⟨b.toArray⟩ : ByteArray) = ⟨(a ++ b).toArray⟩ := by
    apply ByteArray.ext
    simp [ByteArray.data_append]
  rw [this]
theorem decD_len (n : Nat) : (decD n).length ≤ n + 1 := by
  induction n using Nat.strongRecOn with
  | _ n ih =>
    rw [decD]
    by_cases h : n < 10
    · rw [dif_pos h]; simp
    · rw [dif_neg h, List.length_append]
      have := ih (n / 10) (by omega)
      simp only [List.length_cons, List.length_nil]; omega
theorem decD_ne (n : Nat) : decD n ≠ [] := by
  rw [decD]
  by_cases h : n < 10
  · rw [dif_pos h]; simp
  · rw [dif_neg h]; simp
theorem run62 {n : Int} (h : 0 ≤ n ∧ n ≤ 9223372036854775807) (H : AHeap) : ev kk 62 [.c (.int .i64 n), .c (.int .i64 10)] H = some (.c (.str ⟨(decD n.toNat).toArray⟩), H) := by
  refine ev_nat1 c62 rfl rfl ?_
  show (if (10 : Int) = 10 ∧ 0 ≤ n ∧ n ≤ 9223372036854775807 then some ([V0.c (CV.str (decB n))], H) else none) = _
  rw [if_pos ⟨rfl, h.1, h.2⟩]
  rfl
theorem run34 {n : Int} (h : 0 ≤ n ∧ n ≤ 9223372036854775807) (H : AHeap) : ev kk 34 [.c (.int .i64 n)] H = some (.c (.str ⟨(decD n.toNat).toArray⟩), H) := by
  have r := run62 h H
  rw [ev_call c34]; unfold k34; rw [evB_eq rfl]
  simp (maxSteps := 4000000) (disch := first | omega | (refine _root_.id ?_; simp only [pl_int, pl_bool, pl_str, pl_undef, pl_nil, pl_ptr, plA_c, plA_agg, plA_tup, plV_c, plV_agg, List.all_cons, List.all_nil, Bool.and_true, Bool.and_self, eq_self, vi_int, vi_bool, get_app, get_app0, List.getElem?_cons_zero, List.getElem?_cons_succ, Option.join_some, lst_get, getL, upd_at, upd_ne, Nat.reduceBEq])) only [evC_skip, evC_exit, evC_ret, evC_region, evC_seq, evC_block, ev_t, ev_k, putS_some, upd_l, putS_none, ops_nil, ops_pick, pick_bool, ops_consg, guard_bool, evC_condC, cond_bool, ops_cons, next_some, next_none, next_ite, nextD_some, nextD_none, nextD_ite, bind_ite, map_ite, then_ite, then_norm, then_ret, then_exit, out_ite, out_norm, out_ret, out_exit, done_ite, done_norm, done_ret, putL, getL, Option.bind_some, Option.map_some, Option.bind_none, Option.map_none, evalOp, AV.cells?, readCells, readCell, writeCells, get_app, get_app0, set_app, set_app0, len_app, List.getElem?_cons_zero, List.getElem?_cons_succ, Option.join_some, List.length_cons, List.length_nil, List.append_assoc, List.cons_append, List.nil_append, Nat.zero_add, Nat.add_zero, Nat.reduceAdd, Nat.reduceLeDiff, Nat.reduceLT, Nat.reduceMul, Nat.reduceSub, List.drop_zero, List.drop_succ_cons, List.take_zero, List.take_succ_cons, List.take_nil, List.drop_nil, if_true, if_false, ite_true, ite_false, ite_self, ↓reduceIte, reduceCtorEq, binA, binC, intBin, or_false, false_or, or_true, true_or, and_true, true_and, Int.reduceLT, Int.reduceLE, Int.reduceToNat, Int.reduceAdd, evalRs, evalR, AV.toV0?, mkRes, V0.toAV, decide_true, decide_false, and_self, Nat.reduceEqDiff, lst_get, Int.cast_ofNat_Int, eq_self, IntWalk.i64_in, IntWalk.i16_in, IntWalk.i32_in, IntWalk.i8_in, IntWalk.u8_in, Int.reduceNeg, finish_app, finish_id, pl_int, pl_bool, pl_str, pl_undef, pl_nil, pl_ptr, plA_c, plA_agg, plA_tup, plV_c, plV_agg, List.all_cons, List.all_nil, Bool.and_true, Bool.true_and, decide_eq_true_eq, decide_eq_false_iff_not, beq_self_eq_true, Bool.not_true, Bool.not_false, Bool.true_eq_false, Bool.false_eq_true, List.map_cons, List.map_nil, List.append_nil, setAt, CV.ok, eqRes, bne_self_eq_false, List.set_cons_zero, List.set_cons_succ, evC_drawn, dr_nil, dr_cons, chk_nil, chk_cons, re_same, unA, Bool.not_eq_true', Bool.not_eq_eq_eq_not, Bool.not_not, Int.zero_add, List.getElem?_nil, partsA, fillC, Int.reduceEq, Int.reduceMul, Int.reduceSub, Int.reduceTDiv, Int.reduceTMod, List.flatten_cons, List.flatten_nil, finish_no, tdiv_pos, tmod_pos, Int.reduceDiv, Int.reduceMod, len_add, vi_int, vi_bool, Int.reduceBNe, Int.reduceBEq, Nat.reduceBEq, Nat.reduceBNe, post_some, post_ite, ite_ex, upd_at, upd_ne, cast_nonneg, cast_toNat, Nat.mul_one, false_implies, true_implies, implies_true, chkg_bool, chk_consg, guard_undef, r]
abbrev strs (ps : List (List UInt8)) : List CV := ps.map fun p => .str ⟨p.toArray⟩
theorem strs_one {acc : List (List UInt8)} {p : List UInt8} : strs acc ++ [CV.str ⟨p.toArray⟩] = strs (acc ++ [p]) := by simp [strs]
theorem strsOf_strs : ∀ (ps : List (List UInt8)), strsOf (strs ps) = some ps
  | [] => rfl
  | p :: ps => by
    have := strsOf_strs ps
    unfold strs at this ⊢
    rw [List.map_cons, strsOf, this]
    rfl
theorem run61 {J : AHeap} {id : Nat} {e : TypeId} {m : BM} {cap : Cap} {ps : List (List UInt8)} {t : List UInt8} (h : J.get id = some ⟨e, strs ps, m⟩) (h0 : 0 < ps.length) (h1 : ps.length ≤ 140737488355328) (h2 : (joinT t ps).length ≤ 140737488355328) : ev kk 61 [.c (.slice (some (id, 0)) ps.length cap), .c (.str ⟨t.toArray⟩)] J = some (.c (.str ⟨(joinT t ps).toArray⟩), J) := by
  have hl : (strs ps).length = ps.length := by simp [strs]
  have hr : readCells J (id, 0) ps.length = some (strs ps) := by
    unfold readCells
    simp only [h]
    rw [if_pos (by omega), List.drop_zero, List.take_of_length_le (by omega)]
  refine ev_nat1 c61 rfl rfl ?_
  unfold joinA
  simp only [hr, strsOf_strs, h0, h1, h2, and_self, if_true]
/-- The unit at a place. -/
def unitB (i : Nat) : UInt8 := ([108, 115, 100] : List UInt8).getD i 0
theorem sl_unit {i : Nat} (h : i < 3) : sliceStrA (.c (.str ⟨#[108, 115, 100]⟩)) (some (i : Int)) (some ((i : Int) + 1)) = some (.c (.str ⟨[unitB i].toArray⟩)) := by
  match i, h with
  | 0, _ => rfl
  | 1, _ => rfl
  | 2, _ => rfl
/-- The parts of an amount's text, from the place i on. -/
def pF : List Int → Nat → List (List UInt8)
  | [], _ => []
  | n :: ns, i => (if 0 < n then [decD n.toNat ++ [unitB i]] else []) ++ pF ns (i + 1)
theorem pF_len : ∀ (ns : List Int) (i : Nat), (pF ns i).length ≤ ns.length
  | [], _ => Nat.le_refl _
  | n :: ns, i => by
    have := pF_len ns (i + 1)
    unfold pF
    rw [List.length_append]
    split <;> simp only [List.length_cons, List.length_nil] <;> omega
theorem loop33 {xs : List Int} (hx : xs.length = 3) (hb : ∀ x ∈ xs, 0 ≤ x ∧ x ≤ 100000000) {G : AHeap} {b : Nat} {e : TypeId} {m : BM} {cp : Cap} (hg : G.get b = some ⟨e, xs.map (CV.int .i64), m⟩) : ∀ (n i : Nat) (_ : i + n = 3) (acc : List (List UInt8)) (_ : acc.length ≤ i) (J : AHeap) (_ : Pre G J) (v : AV) (_ : ApS 9 1 G J acc.length (strs acc) v) (σ : Sl)
    (_ : σ 3 = v) (_ : σ 19 = .c (.slice (some (b, 0)) 3 cp)) (_ : σ 20 = .c (.int .i64 3)) (_ : σ 21 = .c (.int .i64 i)),
    Post (evC (ev kk) (.loop l33_0) (σ, J)) fun ex σ' H' => ex = .exit 0 ∧ Pre G H' ∧ ApS 9 1 G H' (acc ++ pF (xs.drop i) i).length (strs (acc ++ pF (xs.drop i) i)) (σ' 3)
  | 0, i, hi, acc, hac, J, hJ, v, ho, σ, h3, h19, h20, h21 => by
    have hge : ¬ ((i : Int) < 3) := by omega
    have hd : xs.drop i = [] := List.drop_eq_nil_of_le (by omega)
    rw [evC_loop, hd, show pF [] i = [] from rfl, List.append_nil]
    simp only [evC_skip, evC_exit, evC_ret, evC_region, evC_seq, evC_block, ev_t, ev_k, putS_some, upd_l, putS_none, ops_nil, ops_pick, pick_bool, ops_consg, guard_bool, evC_condC, cond_bool, ops_cons, next_some, next_none, next_ite, nextD_some, nextD_none, nextD_ite, bind_ite, map_ite, then_ite, then_norm, then_ret, then_exit, out_ite, out_norm, out_ret, out_exit, done_ite, done_norm, done_ret, putL, getL, Option.bind_some, Option.map_some, Option.bind_none, Option.map_none, evalOp, AV.cells?, readCells, readCell, writeCells, get_app, get_app0, set_app, set_app0, len_app, List.getElem?_cons_zero, List.getElem?_cons_succ, Option.join_some, List.length_cons, List.length_nil, List.append_assoc, List.cons_append, List.nil_append, Nat.zero_add, Nat.add_zero, Nat.reduceAdd, Nat.reduceLeDiff, Nat.reduceLT, Nat.reduceMul, Nat.reduceSub, List.drop_zero, List.drop_succ_cons, List.take_zero, List.take_succ_cons, List.take_nil, List.drop_nil, if_true, if_false, ite_true, ite_false, ite_self, ↓reduceIte, reduceCtorEq, binA, binC, intBin, or_false, false_or, or_true, true_or, and_true, true_and, Int.reduceLT, Int.reduceLE, Int.reduceToNat, Int.reduceAdd, evalRs, evalR, AV.toV0?, mkRes, V0.toAV, decide_true, decide_false, and_self, Nat.reduceEqDiff, lst_get, Int.cast_ofNat_Int, eq_self, IntWalk.i64_in, IntWalk.i16_in, IntWalk.i32_in, IntWalk.i8_in, IntWalk.u8_in, Int.reduceNeg, finish_app, finish_id, pl_int, pl_bool, pl_str, pl_undef, pl_nil, pl_ptr, plA_c, plA_agg, plA_tup, plV_c, plV_agg, List.all_cons, List.all_nil, Bool.and_true, Bool.true_and, decide_eq_true_eq, decide_eq_false_iff_not, beq_self_eq_true, Bool.not_true, Bool.not_false, Bool.true_eq_false, Bool.false_eq_true, List.map_cons, List.map_nil, List.append_nil, setAt, CV.ok, eqRes, bne_self_eq_false, List.set_cons_zero, List.set_cons_succ, evC_drawn, dr_nil, dr_cons, chk_nil, chk_cons, re_same, unA, Bool.not_eq_true', Bool.not_eq_eq_eq_not, Bool.not_not, Int.zero_add, List.getElem?_nil, partsA, fillC, Int.reduceEq, Int.reduceMul, Int.reduceSub, Int.reduceTDiv, Int.reduceTMod, List.flatten_cons, List.flatten_nil, finish_no, tdiv_pos, tmod_pos, Int.reduceDiv, Int.reduceMod, len_add, vi_int, vi_bool, Int.reduceBNe, Int.reduceBEq, Nat.reduceBEq, Nat.reduceBNe, post_some, post_ite, ite_ex, upd_at, upd_ne, cast_nonneg, cast_toNat, Nat.mul_one, false_implies, true_implies, implies_true, chkg_bool, chk_consg, guard_undef, l33_0, h3, h19, h20, h21, hge]
    exact ⟨hJ, ho⟩
  | n + 1, i, hi, acc, hac, J, hJ, v, ho, σ, h3, h19, h20, h21 => by
    have hil : i < xs.length := by omega
    have hlt : (i : Int) < 3 := by omega
    have hbJ := hJ.get hg
    obtain ⟨x, hxe⟩ : ∃ x, x = xs[i]'hil := ⟨_, rfl⟩
    have hxb := hb x (by rw [hxe]; exact List.getElem_mem hil)
    have hgx : (xs.map (CV.int .i64))[i]? = some (.int .i64 x) := by rw [List.getElem?_map, List.getElem?_eq_getElem hil, hxe]; rfl
    have hd : xs.drop i = x :: xs.drop (i + 1) := by rw [List.drop_eq_getElem_cons hil, hxe]
    have ew : pF (xs.drop i) i = (if 0 < x then [decD x.toNat ++ [unitB i]] else []) ++ pF (xs.drop (i + 1)) (i + 1) := by rw [hd]; rfl
    have hsl := sl_unit (i := i) (by omega)
    obtain ⟨q, cq, hv⟩ := ho.isC
    subst hv
    rw [evC_loop, ew]
    by_cases c1 : 0 < x
    · have r34 := run34 (n := x) (by omega) J
      have hl := decD_len x.toNat
      have s1 := strBin_add (a := decD x.toNat) (b := [unitB i]) (by simp only [List.length_cons, List.length_nil]; omega)
      rw [if_pos c1]
      generalize decD x.toNat = D at *
      obtain ⟨v', K, a1, pK, oK, _, _⟩ := (ho.pre (pre_app (t := [some ⟨9, [.str ⟨(D ++ [unitB i]).toArray⟩], .own⟩]))).step (bytes := 16) (hJ.app _) (j := J.length) (t := 9) (cs := [.str ⟨(D ++ [unitB i]).toArray⟩]) (bm := .own) (m := 1) (cap := .exact 1) (by rw [get_app0]; rfl) (by omega) rfl (by omega) rfl
      rw [strs_one] at oK
      have step := loop33 (cp := cp) hx hb hg n (i + 1) (by omega) (acc ++ [D ++ [unitB i]]) (by simp; omega) K pK v' (by simpa using oK)
      have hcat : acc ++ (D ++ [unitB i]) :: pF (xs.drop (i + 1)) (i + 1) = acc ++ [D ++ [unitB i]] ++ pF (xs.drop (i + 1)) (i + 1) := by simp
      simp (maxSteps := 4000000) (disch := first | omega | (refine _root_.id ?_; simp only [pl_int, pl_bool, pl_str, pl_undef, pl_nil, pl_ptr, plA_c, plA_agg, plA_tup, plV_c, plV_agg, List.all_cons, List.all_nil, Bool.and_true, Bool.and_self, eq_self, vi_int, vi_bool, get_app, get_app0, List.getElem?_cons_zero, List.getElem?_cons_succ, Option.join_some, lst_get, getL, upd_at, upd_ne, Nat.reduceBEq])) only [evC_skip, evC_exit, evC_ret, evC_region, evC_seq, evC_block, ev_t, ev_k, putS_some, upd_l, putS_none, ops_nil, ops_pick, pick_bool, ops_consg, guard_bool, evC_condC, cond_bool, ops_cons, next_some, next_none, next_ite, nextD_some, nextD_none, nextD_ite, bind_ite, map_ite, then_ite, then_norm, then_ret, then_exit, out_ite, out_norm, out_ret, out_exit, done_ite, done_norm, done_ret, putL, getL, Option.bind_some, Option.map_some, Option.bind_none, Option.map_none, evalOp, AV.cells?, readCells, readCell, writeCells, get_app, get_app0, set_app, set_app0, len_app, List.getElem?_cons_zero, List.getElem?_cons_succ, Option.join_some, List.length_cons, List.length_nil, List.append_assoc, List.cons_append, List.nil_append, Nat.zero_add, Nat.add_zero, Nat.reduceAdd, Nat.reduceLeDiff, Nat.reduceLT, Nat.reduceMul, Nat.reduceSub, List.drop_zero, List.drop_succ_cons, List.take_zero, List.take_succ_cons, List.take_nil, List.drop_nil, if_true, if_false, ite_true, ite_false, ite_self, ↓reduceIte, reduceCtorEq, binA, binC, intBin, or_false, false_or, or_true, true_or, and_true, true_and, Int.reduceLT, Int.reduceLE, Int.reduceToNat, Int.reduceAdd, evalRs, evalR, AV.toV0?, mkRes, V0.toAV, decide_true, decide_false, and_self, Nat.reduceEqDiff, lst_get, Int.cast_ofNat_Int, eq_self, IntWalk.i64_in, IntWalk.i16_in, IntWalk.i32_in, IntWalk.i8_in, IntWalk.u8_in, Int.reduceNeg, finish_app, finish_id, pl_int, pl_bool, pl_str, pl_undef, pl_nil, pl_ptr, plA_c, plA_agg, plA_tup, plV_c, plV_agg, List.all_cons, List.all_nil, Bool.and_true, Bool.true_and, decide_eq_true_eq, decide_eq_false_iff_not, beq_self_eq_true, Bool.not_true, Bool.not_false, Bool.true_eq_false, Bool.false_eq_true, List.map_cons, List.map_nil, List.append_nil, setAt, CV.ok, eqRes, bne_self_eq_false, List.set_cons_zero, List.set_cons_succ, evC_drawn, dr_nil, dr_cons, chk_nil, chk_cons, re_same, unA, Bool.not_eq_true', Bool.not_eq_eq_eq_not, Bool.not_not, Int.zero_add, List.getElem?_nil, partsA, fillC, Int.reduceEq, Int.reduceMul, Int.reduceSub, Int.reduceTDiv, Int.reduceTMod, List.flatten_cons, List.flatten_nil, finish_no, tdiv_pos, tmod_pos, Int.reduceDiv, Int.reduceMod, len_add, vi_int, vi_bool, Int.reduceBNe, Int.reduceBEq, Nat.reduceBEq, Nat.reduceBNe, post_some, post_ite, ite_ex, upd_at, upd_ne, cast_nonneg, cast_toNat, Nat.mul_one, false_implies, true_implies, implies_true, chkg_bool, chk_consg, guard_undef, l33_0, h3, h19, h20, h21, hlt, hbJ, hgx, c1, r34, optInt, hsl, s1, a1]
      exact Post.mono (step _ (by simp only [upd_at, upd_ne, Nat.reduceBEq]) (by simp only [upd_at, upd_ne, Nat.reduceBEq, h19]) (by simp only [upd_at, upd_ne, Nat.reduceBEq, h20]) (by simp only [upd_at, upd_ne, Nat.reduceBEq]; rfl)) (fun ex σ' H' q => ⟨q.1, q.2.1, by rw [hcat]; exact q.2.2⟩)
    · rw [if_neg c1, List.nil_append]
      have step := loop33 (cp := cp) hx hb hg n (i + 1) (by omega) acc (by omega) J hJ _ ho
      simp (maxSteps := 4000000) (disch := first | omega | (refine _root_.id ?_; simp only [pl_int, pl_bool, pl_str, pl_undef, pl_nil, pl_ptr, plA_c, plA_agg, plA_tup, plV_c, plV_agg, List.all_cons, List.all_nil, Bool.and_true, Bool.and_self, eq_self, vi_int, vi_bool, get_app, get_app0, List.getElem?_cons_zero, List.getElem?_cons_succ, Option.join_some, lst_get, getL, upd_at, upd_ne, Nat.reduceBEq])) only [evC_skip, evC_exit, evC_ret, evC_region, evC_seq, evC_block, ev_t, ev_k, putS_some, upd_l, putS_none, ops_nil, ops_pick, pick_bool, ops_consg, guard_bool, evC_condC, cond_bool, ops_cons, next_some, next_none, next_ite, nextD_some, nextD_none, nextD_ite, bind_ite, map_ite, then_ite, then_norm, then_ret, then_exit, out_ite, out_norm, out_ret, out_exit, done_ite, done_norm, done_ret, putL, getL, Option.bind_some, Option.map_some, Option.bind_none, Option.map_none, evalOp, AV.cells?, readCells, readCell, writeCells, get_app, get_app0, set_app, set_app0, len_app, List.getElem?_cons_zero, List.getElem?_cons_succ, Option.join_some, List.length_cons, List.length_nil, List.append_assoc, List.cons_append, List.nil_append, Nat.zero_add, Nat.add_zero, Nat.reduceAdd, Nat.reduceLeDiff, Nat.reduceLT, Nat.reduceMul, Nat.reduceSub, List.drop_zero, List.drop_succ_cons, List.take_zero, List.take_succ_cons, List.take_nil, List.drop_nil, if_true, if_false, ite_true, ite_false, ite_self, ↓reduceIte, reduceCtorEq, binA, binC, intBin, or_false, false_or, or_true, true_or, and_true, true_and, Int.reduceLT, Int.reduceLE, Int.reduceToNat, Int.reduceAdd, evalRs, evalR, AV.toV0?, mkRes, V0.toAV, decide_true, decide_false, and_self, Nat.reduceEqDiff, lst_get, Int.cast_ofNat_Int, eq_self, IntWalk.i64_in, IntWalk.i16_in, IntWalk.i32_in, IntWalk.i8_in, IntWalk.u8_in, Int.reduceNeg, finish_app, finish_id, pl_int, pl_bool, pl_str, pl_undef, pl_nil, pl_ptr, plA_c, plA_agg, plA_tup, plV_c, plV_agg, List.all_cons, List.all_nil, Bool.and_true, Bool.true_and, decide_eq_true_eq, decide_eq_false_iff_not, beq_self_eq_true, Bool.not_true, Bool.not_false, Bool.true_eq_false, Bool.false_eq_true, List.map_cons, List.map_nil, List.append_nil, setAt, CV.ok, eqRes, bne_self_eq_false, List.set_cons_zero, List.set_cons_succ, evC_drawn, dr_nil, dr_cons, chk_nil, chk_cons, re_same, unA, Bool.not_eq_true', Bool.not_eq_eq_eq_not, Bool.not_not, Int.zero_add, List.getElem?_nil, partsA, fillC, Int.reduceEq, Int.reduceMul, Int.reduceSub, Int.reduceTDiv, Int.reduceTMod, List.flatten_cons, List.flatten_nil, finish_no, tdiv_pos, tmod_pos, Int.reduceDiv, Int.reduceMod, len_add, vi_int, vi_bool, Int.reduceBNe, Int.reduceBEq, Nat.reduceBEq, Nat.reduceBNe, post_some, post_ite, ite_ex, upd_at, upd_ne, cast_nonneg, cast_toNat, Nat.mul_one, false_implies, true_implies, implies_true, chkg_bool, chk_consg, guard_undef, l33_0, h3, h19, h20, h21, hlt, hbJ, hgx, c1]
      exact step _ (by simp only [upd_at, upd_ne, Nat.reduceBEq, h3]) (by simp only [upd_at, upd_ne, Nat.reduceBEq, h19]) (by simp only [upd_at, upd_ne, Nat.reduceBEq, h20]) (by simp only [upd_at, upd_ne, Nat.reduceBEq]; rfl)
end Go.Proofs.YtmockobmiagbcaaDoor
