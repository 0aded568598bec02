/- What functions of the program answer: part R1. -/
import Derived.Test.YtcfabmmonoljeaaDoorCount
set_option linter.unusedVariables false
set_option linter.unusedSimpArgs false
set_option linter.unusedSectionVars false
namespace Go.Proofs.YtcfabmmonoljeaaDoor
open Go Go.Proofs.YtcfabmmonoljeaaDoor.VI
set_option maxHeartbeats 16000000
set_option maxRecDepth 20000
/-! Numbers that are read -/
def isDig (b : UInt8) : Bool := decide (48 ≤ b.toNat ∧ b.toNat ≤ 57)
def digs (s : List UInt8) : Bool := s.all isDig
def stepV (n : Nat) (b : UInt8) : Nat := 10 * n + (b.toNat - 48)
def valN (n : Nat) (s : List UInt8) : Nat := s.foldl stepV n
noncomputable def numR (lim : Nat) (s : List UInt8) : Nat × Bool :=
  if s = [] ∨ lim < s.length ∨ (s.head? = some 48 ∧ 1 < s.length) then (0, false) else if digs s = true then (valN 0 s, true) else (0, false)
theorem valN_cons {n : Nat} {b : UInt8} {l : List UInt8} : valN n (b :: l) = valN (stepV n b) l := by unfold valN; rw [List.foldl_cons]
theorem valN_nil {n : Nat} : valN n [] = n := by unfold valN; rw [List.foldl_nil]
theorem stepV_eq {n : Nat} {b : UInt8} : stepV n b = 10 * n + (b.toNat - 48) := by unfold stepV; rfl
theorem digs_step {s : List UInt8} {i : Nat} (h : i < s.length) : digs (s.drop i) = (isDig (s[i]'h) && digs (s.drop (i + 1))) := by
  rw [List.drop_eq_getElem_cons h]; unfold digs; rw [List.all_cons]
theorem digs_end {s : List UInt8} {i : Nat} (h : i = s.length) : digs (s.drop i) = true := by subst h; rw [List.drop_length]; rfl
theorem val_step {s : List UInt8} {i n : Nat} (h : i < s.length) : valN n (s.drop i) = valN (stepV n (s[i]'h)) (s.drop (i + 1)) := by
  rw [List.drop_eq_getElem_cons h, valN_cons]
theorem val_end {s : List UInt8} {i n : Nat} (h : i = s.length) : valN n (s.drop i) = n := by subst h; rw [List.drop_length, valN_nil]
theorem byte_is {b k : UInt8} (h : (b.toNat : Int) = (k.toNat : Int)) : b = k := UInt8.toNat_inj.1 (by omega)
theorem dig_no1 {b : UInt8} (h : (b.toNat : Int) < 48) : isDig b = false := by unfold isDig; simp; omega
theorem dig_no2 {b : UInt8} (h : (57 : Int) < b.toNat) : isDig b = false := by unfold isDig; simp; omega
theorem dig_yes {b : UInt8} (h : ¬ (b.toNat : Int) < 48) (h' : ¬ (57 : Int) < b.toNat) : isDig b = true := by unfold isDig; simp; omega
theorem numR_bad {lim : Nat} {s : List UInt8} (h : s = [] ∨ lim < s.length ∨ (s.head? = some 48 ∧ 1 < s.length)) : numR lim s = (0, false) := by unfold numR; rw [if_pos h]
theorem numR_good {lim : Nat} {s : List UInt8} (h : ¬ (s = [] ∨ lim < s.length ∨ (s.head? = some 48 ∧ 1 < s.length))) (hd : digs s = true) : numR lim s = (valN 0 s, true) := by unfold numR; rw [if_neg h, if_pos hd]
theorem numR_no {lim : Nat} {s : List UInt8} (h : ¬ (s = [] ∨ lim < s.length ∨ (s.head? = some 48 ∧ 1 < s.length))) (hd : digs s = false) : numR lim s = (0, false) := by unfold numR; rw [if_neg h, if_neg (by rw [hd]; decide)]
theorem loop42 {s : List UInt8} (hs : s.length ≤ 9) {H : AHeap} : ∀ (m i n : Nat) (_ : i + m = s.length) (_ : n < 10 ^ i) (σ : Sl) (_ : σ 0 = .c (.str ⟨s.toArray⟩)) (_ : σ 4 = .c (.int .i64 n)) (_ : σ 24 = .c (.int .i64 s.length)) (_ : σ 25 = .c (.int .i64 i)),
    Post (evC (ev kk) (.loop l42_0) (σ, H)) fun ex σ' H' => ex = (if digs (s.drop i) = true then .exit 0 else .ret) ∧ H' = H ∧ (digs (s.drop i) = true → σ' 4 = .c (.int .i64 (valN n (s.drop i)))) ∧ (digs (s.drop i) = false → σ' 2 = .c (.int .i64 0) ∧ σ' 3 = .c (.bool false))
  | 0, i, n, hi, hn, σ, h0, h4, h24, h25 => by
    have hge : ¬ ((i : Int) < (s.length : Int)) := by omega
    rw [evC_loop, digs_end (by omega), val_end (by omega)]
    simp only [evC_exit, evC_region, evC_seq, ev_t, putS_some, ops_nil, evC_condC, cond_bool, ops_cons, next_some, then_norm, then_exit, Option.map_some, evalOp, ↓reduceIte, reduceCtorEq, binA, binC, intBin, or_false, or_true, and_true, decide_false, and_self, eq_self, Bool.true_eq_false, Bool.false_eq_true, Nat.reduceBEq, post_some, upd_at, upd_ne, false_implies, true_implies, l42_0, h4, h24, h25, hge]
  | m + 1, i, n, hi, hn, σ, h0, h4, h24, h25 => by
    have hil : i < s.length := by omega
    have hlt : (i : Int) < (s.length : Int) := by omega
    have hb := bget hil
    obtain ⟨b, hbe⟩ : ∃ b, b = s[i]'hil := ⟨_, rfl⟩
    have hst := digs_step hil
    have hvt := fun n => val_step (n := n) hil
    rw [← hbe] at hb hst hvt
    rw [evC_loop, hst, hvt]
    have hp : (10 : Nat) ^ i ≤ 10 ^ 9 := Nat.pow_le_pow_right (by omega) (by omega)
    have hp1 : (10 : Nat) ^ (i + 1) = 10 ^ i * 10 := Nat.pow_succ ..
    have hb8 : b.toNat < 256 := b.toNat_lt
    by_cases c1 : (b.toNat : Int) < 48
    · simp (maxSteps := 4000000) (disch := first | omega | (refine _root_.id ?_; simp only [pl_int, pl_bool, pl_str, pl_undef, pl_nil, pl_ptr, plA_c, plA_agg, plA_tup, plV_c, plV_agg, List.all_cons, List.all_nil, Bool.and_true, Bool.and_self, eq_self, vi_int, vi_bool, get_app, get_app0, List.getElem?_cons_zero, List.getElem?_cons_succ, Option.join_some, lst_get, getL, upd_at, upd_ne, Nat.reduceBEq])) only [evC_skip, evC_ret, evC_region, evC_seq, evC_block, ev_t, ev_k, putS_some, ops_nil, ops_consg, guard_bool, evC_condC, cond_bool, ops_cons, next_some, then_norm, then_ret, out_ret, Option.map_some, evalOp, ↓reduceIte, reduceCtorEq, binA, binC, intBin, or_false, or_true, true_and, decide_true, and_self, eq_self, Bool.not_false, Bool.true_eq_false, Bool.false_eq_true, post_some, upd_at, upd_ne, cast_nonneg, cast_toNat, false_implies, true_implies, l42_0, h0, h24, h25, hlt, hb, c1, dig_no1 c1, Bool.false_and, Bool.false_eq_true]
    · by_cases c2 : (57 : Int) < b.toNat
      · simp (maxSteps := 4000000) (disch := first | omega | (refine _root_.id ?_; simp only [pl_int, pl_bool, pl_str, pl_undef, pl_nil, pl_ptr, plA_c, plA_agg, plA_tup, plV_c, plV_agg, List.all_cons, List.all_nil, Bool.and_true, Bool.and_self, eq_self, vi_int, vi_bool, get_app, get_app0, List.getElem?_cons_zero, List.getElem?_cons_succ, Option.join_some, lst_get, getL, upd_at, upd_ne, Nat.reduceBEq])) only [evC_skip, evC_ret, evC_region, evC_seq, evC_block, ev_t, ev_k, putS_some, ops_nil, ops_consg, guard_bool, evC_condC, cond_bool, ops_cons, next_some, then_norm, then_ret, out_ret, Option.map_some, evalOp, ↓reduceIte, reduceCtorEq, binA, binC, intBin, or_false, or_true, true_and, decide_true, decide_false, and_self, eq_self, Bool.false_eq_true, post_some, upd_at, upd_ne, cast_nonneg, cast_toNat, false_implies, true_implies, l42_0, h0, h24, h25, hlt, hb, c1, c2, dig_no2 c2, Bool.false_and, Bool.false_eq_true]
      · simp (maxSteps := 4000000) (disch := first | omega | (refine _root_.id ?_; simp only [pl_int, pl_bool, pl_str, pl_undef, pl_nil, pl_ptr, plA_c, plA_agg, plA_tup, plV_c, plV_agg, List.all_cons, List.all_nil, Bool.and_true, Bool.and_self, eq_self, vi_int, vi_bool, get_app, get_app0, List.getElem?_cons_zero, List.getElem?_cons_succ, Option.join_some, lst_get, getL, upd_at, upd_ne, Nat.reduceBEq])) only [evC_skip, evC_region, evC_seq, evC_block, ev_t, ev_k, putS_some, ops_nil, ops_consg, guard_bool, evC_condC, cond_bool, ops_cons, next_some, then_norm, out_norm, Option.map_some, evalOp, ↓reduceIte, reduceCtorEq, binA, binC, intBin, or_false, or_true, decide_true, decide_false, eq_self, IntWalk.i64_in, IntWalk.u8_in, Bool.true_and, Bool.false_eq_true, upd_at, upd_ne, cast_nonneg, cast_toNat, l42_0, h0, h4, h24, h25, hlt, hb, c1, c2, dig_yes c1 c2, Bool.true_and]
        exact loop42 hs m (i + 1) (stepV n b) (by omega) (by rw [stepV_eq]; omega) _ (by simp only [upd_ne, Nat.reduceBEq, h0]) (by simp only [upd_at, upd_ne, Nat.reduceBEq]; rw [stepV_eq]; congr 3; omega) (by simp only [upd_ne, Nat.reduceBEq, h24]) (by simp only [upd_at]; rfl)
theorem run42 {s : List UInt8} (H : AHeap) : ev kk 42 [.c (.str ⟨s.toArray⟩)] H = some (.tup [.c (.int .i64 (numR 9 s).1), .c (.bool (numR 9 s).2)], H) := by
  rw [ev_call c42]; unfold k42; rw [evB_eq rfl]
  by_cases h1 : s = []
  · rw [numR_bad (.inl h1)]
    subst h1
    simp (maxSteps := 4000000) (disch := first | omega | (refine _root_.id ?_; simp only [pl_int, pl_bool, pl_str, pl_undef, pl_nil, pl_ptr, plA_c, plA_agg, plA_tup, plV_c, plV_agg, List.all_cons, List.all_nil, Bool.and_true, Bool.and_self, eq_self, vi_int, vi_bool, get_app, get_app0, List.getElem?_cons_zero, List.getElem?_cons_succ, Option.join_some, lst_get, getL, upd_at, upd_ne, Nat.reduceBEq])) only [evC_ret, evC_region, evC_seq, ev_t, ev_k, putS_some, upd_l, ops_nil, ops_consg, guard_bool, evC_condC, cond_bool, ops_cons, next_some, then_norm, then_ret, done_ret, putL, getL, Option.bind_some, Option.map_some, evalOp, ↓reduceIte, binA, binC, evalRs, evalR, AV.toV0?, mkRes, V0.toAV, decide_true, lst_get, Int.cast_ofNat_Int, eq_self, finish_id, Bool.not_false, Bool.true_eq_false, guard_undef, str_eql]
    try rfl
  · by_cases h2 : 9 < s.length
    · have h2' : (9 : Int) < (s.length : Int) := by omega
      rw [numR_bad (.inr (.inl h2))]
      simp (maxSteps := 4000000) (disch := first | omega | (refine _root_.id ?_; simp only [pl_int, pl_bool, pl_str, pl_undef, pl_nil, pl_ptr, plA_c, plA_agg, plA_tup, plV_c, plV_agg, List.all_cons, List.all_nil, Bool.and_true, Bool.and_self, eq_self, vi_int, vi_bool, get_app, get_app0, List.getElem?_cons_zero, List.getElem?_cons_succ, Option.join_some, lst_get, getL, upd_at, upd_ne, Nat.reduceBEq])) only [evC_ret, evC_region, evC_seq, ev_t, ev_k, putS_some, upd_l, ops_nil, ops_consg, guard_bool, evC_condC, cond_bool, ops_cons, next_some, then_norm, then_ret, done_ret, putL, getL, Option.bind_some, Option.map_some, evalOp, ↓reduceIte, reduceCtorEq, binA, binC, intBin, or_false, or_true, evalRs, evalR, AV.toV0?, mkRes, V0.toAV, decide_true, decide_false, lst_get, Int.cast_ofNat_Int, eq_self, finish_id, Bool.not_false, Bool.true_eq_false, Bool.false_eq_true, guard_undef, str_eql, bsize, h1, h2']
      try rfl
    · have h2' : ¬ (9 : Int) < (s.length : Int) := by omega
      have hl : 0 < s.length := List.length_pos_iff.2 h1
      have hb := bget hl
      obtain ⟨b, hbe⟩ : ∃ b, b = s[0]'hl := ⟨_, rfl⟩
      rw [← hbe] at hb
      have hhd : s.head? = some b := by rw [hbe]; cases s with
        | nil => simp at hl
        | cons x xs => rfl
      have L := fun (σ : Sl) (h0 : σ 0 = .c (.str ⟨s.toArray⟩)) (h4 : σ 4 = .c (.int .i64 0)) (h24 : σ 24 = .c (.int .i64 s.length)) (h25 : σ 25 = .c (.int .i64 0)) => post_fin (loop42 (H := H) (by omega) s.length 0 0 (by omega) (by decide) σ h0 h4 h24 h25)
      simp only [List.drop_zero] at L
      by_cases h3 : (b.toNat : Int) = 48
      · have hb3 : b = 48 := byte_is (k := 48) h3
        by_cases h4 : 1 < s.length
        · have h4' : (1 : Int) < (s.length : Int) := by omega
          rw [numR_bad (.inr (.inr ⟨by rw [hhd, hb3], h4⟩))]
          simp (maxSteps := 4000000) (disch := first | omega | (refine _root_.id ?_; simp only [pl_int, pl_bool, pl_str, pl_undef, pl_nil, pl_ptr, plA_c, plA_agg, plA_tup, plV_c, plV_agg, List.all_cons, List.all_nil, Bool.and_true, Bool.and_self, eq_self, vi_int, vi_bool, get_app, get_app0, List.getElem?_cons_zero, List.getElem?_cons_succ, Option.join_some, lst_get, getL, upd_at, upd_ne, Nat.reduceBEq])) only [evC_ret, evC_region, evC_seq, ev_t, ev_k, putS_some, upd_l, ops_nil, ops_consg, guard_bool, evC_condC, cond_bool, ops_cons, next_some, then_norm, then_ret, done_ret, putL, getL, Option.bind_some, Option.map_some, evalOp, ↓reduceIte, reduceCtorEq, binA, binC, intBin, or_false, or_true, Int.reduceLE, Int.reduceToNat, evalRs, evalR, AV.toV0?, mkRes, V0.toAV, decide_true, decide_false, lst_get, Int.cast_ofNat_Int, eq_self, finish_id, beq_self_eq_true, Bool.false_eq_true, str_eql, bsize, h1, h2', hb, h3, h4']
          try rfl
        · have h4' : ¬ (1 : Int) < (s.length : Int) := by omega
          have hc : ¬ (s = [] ∨ 9 < s.length ∨ (s.head? = some 48 ∧ 1 < s.length)) := by
            rintro (h | h | ⟨_, h⟩)
            · exact h1 h
            · exact h2 h
            · exact h4 h
          by_cases hd : digs s = true
          · rw [numR_good hc hd]
            simp (maxSteps := 4000000) (disch := first | omega | (refine _root_.id ?_; simp only [pl_int, pl_bool, pl_str, pl_undef, pl_nil, pl_ptr, plA_c, plA_agg, plA_tup, plV_c, plV_agg, List.all_cons, List.all_nil, Bool.and_true, Bool.and_self, eq_self, vi_int, vi_bool, get_app, get_app0, List.getElem?_cons_zero, List.getElem?_cons_succ, Option.join_some, lst_get, getL, upd_at, upd_ne, Nat.reduceBEq])) only [evC_skip, evC_ret, evC_region, evC_seq, evC_block, ev_t, ev_k, putS_some, upd_l, ops_nil, ops_consg, guard_bool, evC_condC, cond_bool, ops_cons, next_some, then_norm, out_exit, done_ret, putL, getL, Option.bind_some, Option.map_some, evalOp, ↓reduceIte, reduceCtorEq, binA, binC, intBin, or_false, or_true, Int.reduceLE, Int.reduceToNat, evalRs, evalR, AV.toV0?, mkRes, V0.toAV, decide_false, lst_get, eq_self, finish_id, beq_self_eq_true, Bool.false_eq_true, upd_at, upd_ne, str_eql, bsize, h1, h2', hb, h3, h4', hd, (fun σ h0 h4 h24 h25 => (L σ h0 h4 h24 h25).1), (fun σ h0 h4 h24 h25 => (L σ h0 h4 h24 h25).2.1 hd)]
            try rfl
          · have hd : digs s = false := by simpa using hd
            rw [numR_no hc hd]
            simp (maxSteps := 4000000) (disch := first | omega | (refine _root_.id ?_; simp only [pl_int, pl_bool, pl_str, pl_undef, pl_nil, pl_ptr, plA_c, plA_agg, plA_tup, plV_c, plV_agg, List.all_cons, List.all_nil, Bool.and_true, Bool.and_self, eq_self, vi_int, vi_bool, get_app, get_app0, List.getElem?_cons_zero, List.getElem?_cons_succ, Option.join_some, lst_get, getL, upd_at, upd_ne, Nat.reduceBEq])) only [evC_skip, evC_region, evC_seq, evC_block, ev_t, ev_k, putS_some, upd_l, ops_nil, ops_consg, guard_bool, evC_condC, cond_bool, ops_cons, next_some, then_norm, then_ret, out_ret, done_ret, putL, getL, Option.bind_some, Option.map_some, evalOp, ↓reduceIte, reduceCtorEq, binA, binC, intBin, or_false, or_true, Int.reduceLE, Int.reduceToNat, evalRs, evalR, AV.toV0?, mkRes, V0.toAV, decide_false, lst_get, Int.cast_ofNat_Int, eq_self, finish_id, beq_self_eq_true, Bool.false_eq_true, str_eql, bsize, h1, h2', hb, h3, h4', hd, Bool.false_eq_true, (fun σ h0 h4 h24 h25 => (L σ h0 h4 h24 h25).1), (fun σ h0 h4 h24 h25 => ((L σ h0 h4 h24 h25).2.2 hd).1), (fun σ h0 h4 h24 h25 => ((L σ h0 h4 h24 h25).2.2 hd).2)]
            try rfl
      · have hc : ¬ (s = [] ∨ 9 < s.length ∨ (s.head? = some 48 ∧ 1 < s.length)) := by
          rintro (h | h | ⟨h, _⟩)
          · exact h1 h
          · exact h2 h
          · rw [hhd] at h; injection h with h; rw [h] at h3; exact h3 rfl
        have h3' : ((b.toNat : Int) == 48) = false := beq_eq_false_iff_ne.2 h3
        by_cases hd : digs s = true
        · rw [numR_good hc hd]
          simp (maxSteps := 4000000) (disch := first | omega | (refine _root_.id ?_; simp only [pl_int, pl_bool, pl_str, pl_undef, pl_nil, pl_ptr, plA_c, plA_agg, plA_tup, plV_c, plV_agg, List.all_cons, List.all_nil, Bool.and_true, Bool.and_self, eq_self, vi_int, vi_bool, get_app, get_app0, List.getElem?_cons_zero, List.getElem?_cons_succ, Option.join_some, lst_get, getL, upd_at, upd_ne, Nat.reduceBEq])) only [evC_skip, evC_ret, evC_region, evC_seq, evC_block, ev_t, ev_k, putS_some, upd_l, ops_nil, ops_consg, guard_bool, evC_condC, cond_bool, ops_cons, next_some, then_norm, out_exit, done_ret, putL, getL, Option.bind_some, Option.map_some, evalOp, ↓reduceIte, reduceCtorEq, binA, binC, intBin, or_false, or_true, Int.reduceLE, Int.reduceToNat, evalRs, evalR, AV.toV0?, mkRes, V0.toAV, decide_false, lst_get, eq_self, finish_id, Bool.not_true, Bool.false_eq_true, upd_at, upd_ne, str_eql, bsize, h1, h2', hb, h3', hd, (fun σ h0 h4 h24 h25 => (L σ h0 h4 h24 h25).1), (fun σ h0 h4 h24 h25 => (L σ h0 h4 h24 h25).2.1 hd)]
          try rfl
        · have hd : digs s = false := by simpa using hd
          rw [numR_no hc hd]
          simp (maxSteps := 4000000) (disch := first | omega | (refine _root_.id ?_; simp only [pl_int, pl_bool, pl_str, pl_undef, pl_nil, pl_ptr, plA_c, plA_agg, plA_tup, plV_c, plV_agg, List.all_cons, List.all_nil, Bool.and_true, Bool.and_self, eq_self, vi_int, vi_bool, get_app, get_app0, List.getElem?_cons_zero, List.getElem?_cons_succ, Option.join_some, lst_get, getL, upd_at, upd_ne, Nat.reduceBEq])) only [evC_skip, evC_region, evC_seq, evC_block, ev_t, ev_k, putS_some, upd_l, ops_nil, ops_consg, guard_bool, evC_condC, cond_bool, ops_cons, next_some, then_norm, then_ret, out_ret, done_ret, putL, getL, Option.bind_some, Option.map_some, evalOp, ↓reduceIte, reduceCtorEq, binA, binC, intBin, or_false, or_true, Int.reduceLE, Int.reduceToNat, evalRs, evalR, AV.toV0?, mkRes, V0.toAV, decide_false, lst_get, Int.cast_ofNat_Int, eq_self, finish_id, Bool.not_true, Bool.false_eq_true, str_eql, bsize, h1, h2', hb, h3', hd, Bool.false_eq_true, (fun σ h0 h4 h24 h25 => (L σ h0 h4 h24 h25).1), (fun σ h0 h4 h24 h25 => ((L σ h0 h4 h24 h25).2.2 hd).1), (fun σ h0 h4 h24 h25 => ((L σ h0 h4 h24 h25).2.2 hd).2)]
          try rfl
end Go.Proofs.YtcfabmmonoljeaaDoor
