/- What functions of the program answer: parts Count S0 T1. -/
import Derived.Test.YtcfabmmonoljeaaDoorPop
import Derived.Test.YtcfabmmonoljeaaDoorCopies
import Derived.Test.YtcfabmmonoljeaaDoorViE
import Derived.Test.YtcfabmmonoljeaaDoorCode
import Derived.Test.YtcfabmmonoljeaaDoorCut4
/- What functions of the program answer: part Count. -/
set_option linter.unusedVariables false
set_option linter.unusedSimpArgs false
set_option linter.unusedSectionVars false
namespace Go.Proofs.YtcfabmmonoljeaaDoor
open Go Go.Proofs.YtcfabmmonoljeaaDoor.VI
set_option maxHeartbeats 16000000
set_option maxRecDepth 20000
theorem vandN {x y : Nat} (hx : x < 18446744073709551616) (hy : y < 18446744073709551616) : vand .u64 (x : Int) (y : Int) = ((x &&& y : Nat) : Int) := by
  unfold vand
  have e : ∀ z : Nat, z < 18446744073709551616 → (BitVec.ofInt IntKind.u64.bits (z : Int)).toNat = z := fun z hz => by
    rw [BitVec.toNat_ofInt]
    have : ((2 ^ IntKind.u64.bits : Nat) : Int) = 18446744073709551616 := by decide
    rw [this]; omega
  rw [BitVec.toNat_and, e x hx, e y hy]
  have : x &&& y ≤ x := Nat.and_le_left
  exact IntWalk.u64_in _ (by omega)
theorem vandI {x y : Nat} (hx : x < 9223372036854775808) (hy : y < 9223372036854775808) : vand .i64 (x : Int) (y : Int) = ((x &&& y : Nat) : Int) := by
  unfold vand
  have e : ∀ z : Nat, z < 9223372036854775808 → (BitVec.ofInt IntKind.i64.bits (z : Int)).toNat = z := fun z hz => by
    rw [BitVec.toNat_ofInt]
    have : ((2 ^ IntKind.i64.bits : Nat) : Int) = 18446744073709551616 := by decide
    rw [this]; omega
  rw [BitVec.toNat_and, e x hx, e y hy]
  have : x &&& y ≤ x := Nat.and_le_left
  exact IntWalk.i64_in _ (by omega)
theorem vshrN {x k m : Nat} {i : Int} (hi : i = k) (hk : k ≤ 64) (hm : 2 ^ k = m) : vshr .u64 (x : Int) i = ((x / m : Nat) : Int) := by
  unfold vshr
  subst hi
  have e : Nat.min (Int.toNat (k : Int)) IntKind.u64.bits = k := by
    rw [Int.toNat_natCast]; exact Nat.min_eq_left hk
  rw [e, Int.fdiv_eq_ediv_of_nonneg _ (by exact_mod_cast Nat.zero_le _), ← hm]
  push_cast; rfl
theorem run50 {x : Nat} (hx : x < 18446744073709551616) (H : AHeap) : ev kk 50 [.c (.int .u64 x)] H = some (.c (.int .i64 (pcN 64 x)), H) := by
  obtain ⟨a, b, c, d, e, f, ea, ba, eb, bb, ec, bc, ed, bd, ee, be, ef, bf, ep⟩ := pop_facts hx
  have q1 : vshr .u64 (x : Int) 1 = ((x / 2 : Nat) : Int) := vshrN (k := 1) rfl (by decide) rfl
  have q2 : vand .u64 ((x / 2 : Nat) : Int) 6148914691236517205 = ((x / 2 &&& 6148914691236517205 : Nat) : Int) := vandN (by omega) (by decide)
  have q3 : vand .u64 (x : Int) 6148914691236517205 = ((x &&& 6148914691236517205 : Nat) : Int) := vandN hx (by decide)
  have q4 : IntKind.u64.wrap (((x / 2 &&& 6148914691236517205 : Nat) : Int) + ((x &&& 6148914691236517205 : Nat) : Int)) = (a : Int) := by
    rw [IntWalk.u64_in _ (by omega)]; omega
  have q5 : vshr .u64 (a : Int) 2 = ((a / 4 : Nat) : Int) := vshrN (k := 2) rfl (by decide) rfl
  have q6 : vand .u64 ((a / 4 : Nat) : Int) 3689348814741910323 = ((a / 4 &&& 3689348814741910323 : Nat) : Int) := vandN (by omega) (by decide)
  have q7 : vand .u64 (a : Int) 3689348814741910323 = ((a &&& 3689348814741910323 : Nat) : Int) := vandN ba (by decide)
  have q8 : IntKind.u64.wrap (((a / 4 &&& 3689348814741910323 : Nat) : Int) + ((a &&& 3689348814741910323 : Nat) : Int)) = (b : Int) := by
    rw [IntWalk.u64_in _ (by omega)]; omega
  have q9 : vshr .u64 (b : Int) 4 = ((b / 16 : Nat) : Int) := vshrN (k := 4) rfl (by decide) rfl
  have q10 : IntKind.u64.wrap (((b / 16 : Nat) : Int) + (b : Int)) = ((b / 16 + b : Nat) : Int) := by
    rw [IntWalk.u64_in _ (by omega)]; omega
  have q11 : vand .u64 ((b / 16 + b : Nat) : Int) 1085102592571150095 = (c : Int) := by
    rw [ec]; exact vandN (by omega) (by decide)
  have q12 : vshr .u64 (c : Int) 8 = ((c / 256 : Nat) : Int) := vshrN (k := 8) rfl (by decide) rfl
  have q13 : IntKind.u64.wrap ((c : Int) + ((c / 256 : Nat) : Int)) = (d : Int) := by
    rw [IntWalk.u64_in _ (by omega)]; omega
  have q14 : vshr .u64 (d : Int) 16 = ((d / 65536 : Nat) : Int) := vshrN (k := 16) rfl (by decide) rfl
  have q15 : IntKind.u64.wrap ((d : Int) + ((d / 65536 : Nat) : Int)) = (e : Int) := by
    rw [IntWalk.u64_in _ (by omega)]; omega
  have q16 : vshr .u64 (e : Int) 32 = ((e / 4294967296 : Nat) : Int) := vshrN (k := 32) rfl (by decide) rfl
  have q17 : IntKind.u64.wrap ((e : Int) + ((e / 4294967296 : Nat) : Int)) = (f : Int) := by
    rw [IntWalk.u64_in _ (by omega)]; omega
  have q18 : IntKind.i64.wrap (f : Int) = f := IntWalk.i64_in _ (by omega)
  have q19 : vand .i64 (f : Int) 127 = ((pcN 64 x : Nat) : Int) := by
    rw [← ep, ← Nat.and_two_pow_sub_one_eq_mod f 7]; exact vandI bf (by decide)
  rw [ev_call c50]; unfold k50; rw [evB_eq rfl]
  simp only [evC_ret, evC_region, evC_seq, ev_t, ev_k, putS_some, upd_l, ops_nil, ops_cons, next_some, then_norm, done_ret, putL, getL, Option.bind_some, Option.map_some, evalOp, ↓reduceIte, reduceCtorEq, binA, binC, intBin, or_false, or_true, Int.reduceLT, evalRs, evalR, AV.toV0?, mkRes, V0.toAV, lst_get, eq_self, finish_id, pl_int, plA_c, q1, q2, q3, q4, q5, q6, q7, q8, q9, q10, q11, q12, q13, q14, q15, q16, q17, q18, q19]
abbrev urow (w : List Nat) : List CV := w.map fun x : Nat => CV.int .u64 (x : Int)
def wcn (w : List Nat) : Nat := sumL (w.map (pcN 64))
theorem wcn_cons {x : Nat} {w : List Nat} : wcn (x :: w) = pcN 64 x + wcn w := rfl
theorem wcn_nil : wcn [] = 0 := rfl
attribute [local irreducible] pcN wcn
theorem run21 {w : List Nat} (hw : w.length = 4) (hb : ∀ x ∈ w, x < 18446744073709551616) (H : AHeap) : ev kk 21 [.agg (urow w)] H = some (.c (.int .i64 (wcn w)), H) := by
  match w, hw with
  | [a, b, c, d], _ =>
    have ra := fun H => run50 (hb a (by simp)) H
    have rb := fun H => run50 (hb b (by simp)) H
    have rc := fun H => run50 (hb c (by simp)) H
    have rd := fun H => run50 (hb d (by simp)) H
    have pa := pcN_b (n := 64) (x := a)
    have pb := pcN_b (n := 64) (x := b)
    have pc := pcN_b (n := 64) (x := c)
    have pd := pcN_b (n := 64) (x := d)
    have e : wcn [a, b, c, d] = pcN 64 a + pcN 64 b + pcN 64 c + pcN 64 d := by
      rw [wcn_cons, wcn_cons, wcn_cons, wcn_cons, wcn_nil]; omega
    rw [e]
    generalize pcN 64 a = na at *
    generalize pcN 64 b = nb at *
    generalize pcN 64 c = nc at *
    generalize pcN 64 d = nd at *
    rw [ev_call c21]; unfold k21; rw [evB_eq rfl]
    simp (maxSteps := 4000000) (disch := first | omega | (refine _root_.id ?_; simp only [pl_int, pl_bool, pl_str, pl_undef, pl_nil, pl_ptr, plA_c, plA_agg, plA_tup, plV_c, plV_agg, List.all_cons, List.all_nil, Bool.and_true, Bool.and_self, eq_self, vi_int, vi_bool, get_app, get_app0, List.getElem?_cons_zero, List.getElem?_cons_succ, Option.join_some, lst_get, getL, upd_at, upd_ne, Nat.reduceBEq])) only [evC_skip, evC_exit, evC_ret, evC_region, evC_seq, evC_block, ev_t, ev_k, putS_some, upd_l, ops_nil, evC_condC, cond_bool, evC_loop, ops_cons, next_some, then_norm, then_exit, out_norm, out_exit, done_ret, putL, getL, Option.bind_some, Option.map_some, evalOp, AV.cells?, readCells, get_app0, List.getElem?_cons_zero, List.getElem?_cons_succ, Option.join_some, List.length_cons, List.length_nil, Nat.zero_add, Nat.reduceAdd, Nat.reduceLeDiff, List.drop_zero, List.take_succ_cons, List.take_nil, ↓reduceIte, reduceCtorEq, binA, binC, intBin, or_false, or_true, Int.reduceLT, Int.reduceLE, Int.reduceToNat, Int.reduceAdd, evalRs, evalR, AV.toV0?, mkRes, V0.toAV, decide_true, decide_false, and_self, lst_get, Int.cast_ofNat_Int, eq_self, IntWalk.i64_in, finish_app, Bool.false_eq_true, List.map_cons, List.map_nil, List.append_nil, Int.zero_add, l21_0, List.map_cons, List.map_nil, ra, rb, rc, rd]
    congr 4
end Go.Proofs.YtcfabmmonoljeaaDoor

/- What functions of the program answer: part S0. -/
set_option linter.unusedVariables false
set_option linter.unusedSimpArgs false
set_option linter.unusedSectionVars false
namespace Go.Proofs.YtcfabmmonoljeaaDoor
open Go Go.Proofs.YtcfabmmonoljeaaDoor.VI
set_option maxHeartbeats 16000000
set_option maxRecDepth 20000
/-! Bytes of texts -/
theorem bget {l : List UInt8} {i : Nat} (h : i < l.length) : (⟨l.toArray⟩ : ByteArray)[i]? = some (l[i]'h) := by
  have hs : i < (⟨l.toArray⟩ : ByteArray).size := by show i < l.toArray.size; simpa using h
  rw [getElem?_pos (⟨l.toArray⟩ : ByteArray) i hs]
  rfl
theorem bsize {l : List UInt8} : (⟨l.toArray⟩ : ByteArray).size = l.length := by show l.toArray.size = _; simp
theorem tol {a : List UInt8} : (⟨a.toArray⟩ : ByteArray).toList = a := by rw [ByteArray.toList_eq]
theorem str_eql {a b : List UInt8} : strBin .eql ⟨a.toArray⟩ ⟨b.toArray⟩ = some (.bool (decide (a = b))) := by
  show some (CV.bool ((⟨a.toArray⟩ : ByteArray).toList == (⟨b.toArray⟩ : ByteArray).toList)) = _
  rw [tol, tol]
  congr 2
  rw [Bool.eq_iff_iff, beq_iff_eq, decide_eq_true_iff]
theorem str_neq {a b : List UInt8} : strBin .neq ⟨a.toArray⟩ ⟨b.toArray⟩ = some (.bool (!(decide (a = b)))) := by
  show some (CV.bool (!((⟨a.toArray⟩ : ByteArray).toList == (⟨b.toArray⟩ : ByteArray).toList))) = _
  rw [tol, tol]
  congr 3
  rw [Bool.eq_iff_iff, beq_iff_eq, decide_eq_true_iff]
end Go.Proofs.YtcfabmmonoljeaaDoor

/- What functions of the program answer: part T1. -/
set_option linter.unusedVariables false
set_option linter.unusedSimpArgs false
set_option linter.unusedSectionVars false
namespace Go.Proofs.YtcfabmmonoljeaaDoor
open Go Go.Proofs.YtcfabmmonoljeaaDoor.VI
set_option maxHeartbeats 16000000
set_option maxRecDepth 20000
/-! Texts of tampers -/
theorem strBin_add {a b : List UInt8} (h : a.length + b.length ≤ 140737488355328) : strBin .add ⟨a.toArray⟩ ⟨b.toArray⟩ = some (.str ⟨(a ++ b).toArray⟩) := by
  have e : (⟨a.toArray⟩ : ByteArray).size + (⟨b.toArray⟩ : ByteArray).size ≤ 140737488355328 := by
    show a.toArray.size + b.toArray.size ≤ _
    simpa using h
  unfold strBin
  rw [if_pos e]
  have : (⟨a.toArray⟩ ++ ⟨b.toArray⟩ : ByteArray) = ⟨(a ++ b).toArray⟩ := by
    apply ByteArray.ext
    simp [ByteArray.data_append]
  rw [this]
theorem decD_len (n : Nat) : (decD n).length ≤ n + 1 := by
  induction n using Nat.strongRecOn with
  | _ n ih =>
    rw [decD]
    by_cases h : n < 10
    · rw [dif_pos h]; simp
    · rw [dif_neg h, List.length_append]
      have := ih (n / 10) (by omega)
      simp only [List.length_cons, List.length_nil]; omega
theorem run75 {n : Int} (h : 0 ≤ n ∧ n ≤ 9223372036854775807) (H : AHeap) : ev kk 75 [.c (.int .i64 n), .c (.int .i64 10)] H = some (.c (.str ⟨(decD n.toNat).toArray⟩), H) := by
  refine ev_nat1 c75 rfl rfl ?_
  show (if (10 : Int) = 10 ∧ 0 ≤ n ∧ n ≤ 9223372036854775807 then some ([V0.c (CV.str (decB n))], H) else none) = _
  rw [if_pos ⟨rfl, h.1, h.2⟩]
  rfl
theorem run45 {n : Int} (h : 0 ≤ n ∧ n ≤ 9223372036854775807) (H : AHeap) : ev kk 45 [.c (.int .i64 n)] H = some (.c (.str ⟨(decD n.toNat).toArray⟩), H) := by
  have r := run75 h H
  rw [ev_call c45]; unfold k45; rw [evB_eq rfl]
  simp (maxSteps := 4000000) (disch := first | omega | (refine _root_.id ?_; simp only [pl_int, pl_bool, pl_str, pl_undef, pl_nil, pl_ptr, plA_c, plA_agg, plA_tup, plV_c, plV_agg, List.all_cons, List.all_nil, Bool.and_true, Bool.and_self, eq_self, vi_int, vi_bool, get_app, get_app0, List.getElem?_cons_zero, List.getElem?_cons_succ, Option.join_some, lst_get, getL, upd_at, upd_ne, Nat.reduceBEq])) only [evC_ret, evC_region, evC_seq, ev_t, ev_k, putS_some, upd_l, ops_nil, ops_cons, next_some, then_norm, done_ret, putL, getL, Option.bind_some, Option.map_some, evalOp, evalRs, evalR, AV.toV0?, mkRes, V0.toAV, lst_get, eq_self, finish_id, List.map_cons, List.map_nil, List.append_nil, r]
/-- The letter of a kind. -/
def letB (k : Int) : UInt8 := [100, 115, 108, 118, 99, 109].getD k.toNat 0
/-- A tamper's text. -/
def txt (t : Tm) : List UInt8 :=
  if isT t = true then if t.k = 1 then [97, 100, 100, 32] ++ [letB t.to] ++ [32] ++ decD t.at_.toNat else [119, 105, 100, 101, 110, 32] ++ decD t.ix.toNat ++ [32] ++ [letB t.to] else []
theorem txt_no {t : Tm} (h : isT t = false) : txt t = [] := by unfold txt; rw [h]; rfl
theorem sl_let {k : Int} (h : 0 ≤ k ∧ k ≤ 5) : sliceStrA (.c (.str ⟨#[100, 115, 108, 118, 99, 109]⟩)) (some k) (some (k + 1)) = some (.c (.str ⟨[letB k].toArray⟩)) := by
  rcases five h with e | e | e | e | e | e <;> subst e <;> rfl
theorem run17 {t : Tm} (H : AHeap) (ht : rngT t) : ev kk 17 [.agg (trow t)] H = some (.c (.str ⟨(txt t).toArray⟩), H) := by
  have r44 := fun T => run44 (H ++ T) ht
  rw [ev_call c17]; unfold k17; rw [evB_eq rfl]
  by_cases hi : isT t = true
  · have hq := hi
    unfold isT at hq
    simp only [decide_eq_true_eq] at hq
    obtain ⟨h1, h2⟩ := hq
    have hsl := sl_let h1
    by_cases hk : t.k = 1
    · have h3 : t.ix = 0 ∧ 0 ≤ t.at_ ∧ t.at_ ≤ 200 := by omega
      have r := fun T => run45 (n := t.at_) (by omega) (H ++ T)
      have hl := decD_len t.at_.toNat
      have s1 := strBin_add (a := [97, 100, 100, 32]) (b := [letB t.to]) (by simp)
      have s2 := strBin_add (a := [97, 100, 100, 32] ++ [letB t.to]) (b := [32]) (by simp)
      have s3 := strBin_add (a := [97, 100, 100, 32] ++ [letB t.to] ++ [32]) (b := decD t.at_.toNat) (by simp only [List.length_append, List.length_cons, List.length_nil]; omega)
      have he : txt t = [97, 100, 100, 32] ++ [letB t.to] ++ [32] ++ decD t.at_.toNat := by unfold txt; rw [if_pos hi, if_pos hk]
      rw [he]
      generalize decD t.at_.toNat = D at *
      generalize letB t.to = B at *
      simp only [List.cons_append, List.nil_append] at s1 s2 s3 ⊢
      simp only [trow, hk] at r44
      simp (maxSteps := 4000000) (disch := first | omega | (refine _root_.id ?_; simp only [pl_int, pl_bool, pl_str, pl_undef, pl_nil, pl_ptr, plA_c, plA_agg, plA_tup, plV_c, plV_agg, List.all_cons, List.all_nil, Bool.and_true, Bool.and_self, eq_self, vi_int, vi_bool, get_app, get_app0, List.getElem?_cons_zero, List.getElem?_cons_succ, Option.join_some, lst_get, getL, upd_at, upd_ne, Nat.reduceBEq])) only [evC_skip, evC_ret, evC_region, evC_seq, ev_t, ev_k, putS_some, upd_l, ops_nil, evC_condC, cond_bool, ops_cons, next_some, then_norm, then_ret, done_ret, putL, getL, Option.bind_some, Option.map_some, evalOp, AV.cells?, readCells, readCell, get_app0, List.getElem?_cons_zero, List.getElem?_cons_succ, Option.join_some, List.length_cons, List.length_nil, Nat.zero_add, Nat.add_zero, Nat.reduceAdd, Nat.reduceLeDiff, List.drop_zero, List.take_succ_cons, List.take_nil, ↓reduceIte, reduceCtorEq, binA, binC, intBin, or_false, or_true, evalRs, evalR, AV.toV0?, mkRes, V0.toAV, lst_get, eq_self, IntWalk.i64_in, IntWalk.i8_in, finish_app, beq_self_eq_true, Bool.not_true, Bool.false_eq_true, List.map_cons, List.map_nil, List.append_nil, unA, r44, hi, hk, r, hsl, s1, s2, s3, optInt]
    · have h3 : t.at_ = 0 ∧ 0 ≤ t.ix ∧ t.ix < 60 ∧ t.k = 2 := by omega
      have r := fun T => run45 (n := t.ix) (by omega) (H ++ T)
      have hl := decD_len t.ix.toNat
      have s1 := strBin_add (a := [119, 105, 100, 101, 110, 32]) (b := decD t.ix.toNat) (by simp only [List.length_cons, List.length_nil]; omega)
      have s2 := strBin_add (a := [119, 105, 100, 101, 110, 32] ++ decD t.ix.toNat) (b := [32]) (by simp only [List.length_append, List.length_cons, List.length_nil]; omega)
      have s3 := strBin_add (a := [119, 105, 100, 101, 110, 32] ++ decD t.ix.toNat ++ [32]) (b := [letB t.to]) (by simp only [List.length_append, List.length_cons, List.length_nil]; omega)
      have he : txt t = [119, 105, 100, 101, 110, 32] ++ decD t.ix.toNat ++ [32] ++ [letB t.to] := by unfold txt; rw [if_pos hi, if_neg hk]
      rw [he]
      have hk2 : t.k = 2 := h3.2.2.2
      generalize decD t.ix.toNat = D at *
      generalize letB t.to = B at *
      simp only [List.cons_append, List.nil_append, List.append_assoc] at s1 s2 s3 ⊢
      simp only [trow, hk2] at r44
      simp (maxSteps := 4000000) (disch := first | omega | (refine _root_.id ?_; simp only [pl_int, pl_bool, pl_str, pl_undef, pl_nil, pl_ptr, plA_c, plA_agg, plA_tup, plV_c, plV_agg, List.all_cons, List.all_nil, Bool.and_true, Bool.and_self, eq_self, vi_int, vi_bool, get_app, get_app0, List.getElem?_cons_zero, List.getElem?_cons_succ, Option.join_some, lst_get, getL, upd_at, upd_ne, Nat.reduceBEq])) only [evC_skip, evC_ret, evC_region, evC_seq, ev_t, ev_k, putS_some, upd_l, ops_nil, evC_condC, cond_bool, ops_cons, next_some, then_norm, done_ret, putL, getL, Option.bind_some, Option.map_some, evalOp, AV.cells?, readCells, readCell, get_app0, List.getElem?_cons_zero, List.getElem?_cons_succ, Option.join_some, List.length_cons, List.length_nil, Nat.zero_add, Nat.add_zero, Nat.reduceAdd, Nat.reduceLeDiff, List.drop_zero, List.take_succ_cons, List.take_nil, ↓reduceIte, reduceCtorEq, binA, binC, intBin, or_false, or_true, evalRs, evalR, AV.toV0?, mkRes, V0.toAV, lst_get, eq_self, IntWalk.i64_in, IntWalk.i8_in, finish_app, Bool.not_true, Bool.false_eq_true, List.map_cons, List.map_nil, List.append_nil, unA, Int.reduceBEq, r44, hi, hk2, r, hsl, s1, s2, s3, optInt]
  · have hi : isT t = false := by simpa using hi
    simp (maxSteps := 4000000) (disch := first | omega | (refine _root_.id ?_; simp only [pl_int, pl_bool, pl_str, pl_undef, pl_nil, pl_ptr, plA_c, plA_agg, plA_tup, plV_c, plV_agg, List.all_cons, List.all_nil, Bool.and_true, Bool.and_self, eq_self, vi_int, vi_bool, get_app, get_app0, List.getElem?_cons_zero, List.getElem?_cons_succ, Option.join_some, lst_get, getL, upd_at, upd_ne, Nat.reduceBEq])) only [evC_ret, evC_region, evC_seq, ev_t, ev_k, putS_some, upd_l, ops_nil, evC_condC, cond_bool, ops_cons, next_some, then_norm, then_ret, done_ret, putL, getL, Option.bind_some, Option.map_some, evalOp, AV.cells?, readCells, get_app0, List.getElem?_cons_zero, Option.join_some, List.length_cons, List.length_nil, Nat.zero_add, Nat.reduceAdd, Nat.reduceLeDiff, List.drop_zero, List.take_succ_cons, List.take_nil, ↓reduceIte, evalRs, evalR, AV.toV0?, mkRes, V0.toAV, lst_get, eq_self, finish_app, Bool.not_false, List.map_cons, List.map_nil, List.append_nil, unA, r44, hi]
    rw [txt_no hi]
end Go.Proofs.YtcfabmmonoljeaaDoor
